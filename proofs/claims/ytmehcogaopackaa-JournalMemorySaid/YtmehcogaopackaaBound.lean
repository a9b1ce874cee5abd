/-
  The walks of the reader's any, room, bound.
-/
import Derived.Test.YtmehcogaopackaaScanP
namespace Go.Proofs.Ytmehcogaopackaa
open Go.RowKit

theorem rany_any (p : Value) (n z : Int) (w : World) :
    Calls Try.prog 79 #[p, .int .u64 n, .int .i64 z] w fun x w' => x = .returned (.int .i64 0) ∧ w = w' := by
  go_enter Try.func79, Try.ntmps79
  go_wp2_with fail
  go_ret
  exact ⟨rfl, rfl⟩

set_option maxHeartbeats 1000000 in
theorem room_any (s : Bytes) (t e n z : Nat) (b : Nat) (w : World) (h : RD w b s t e) (ht : t + z ≤ s.length) (hs : s.length ≤ 1152921504606846976) :
    Calls Try.prog 83 #[.pointer (some ⟨b, 0, none⟩), .int .u64 (n : Int), .int .i64 (z : Int)] w fun x w' => x = .returned (.int .i64 ((if s.length - t - z < n then 3 else 0 : Nat) : Int)) ∧ Below w.heap.size w w' := by
  have h0 := h.s
  have h1 := h.t
  have hz : (str s).size = s.length := str_size _
  clear h
  by_cases hn : s.length - t - z < n
  · rw [if_pos hn]
    go_enter Try.func83, Try.ntmps83
    go_wp2_with fail
    go_quiet (fail)
    go_wp2_with fail
    go_ret
    exact ⟨rfl, below_drewN (Below.refl _ _) _⟩
  · rw [if_neg hn]
    go_enter Try.func83, Try.ntmps83
    go_wp2_with fail
    go_quiet (fail)
    go_wp2_with fail
    go_ret
    exact ⟨rfl, below_drewN (Below.refl _ _) _⟩

/-- A read of a number that is at most m: the number, how many bytes it has, the reader's place and its fault then. -/
def bnd (room : Bool) (s : Bytes) (t e m : Nat) : Nat × Nat × Nat × Nat :=
  if e ≠ 0 then (0, 0, t, e) else
  match scan0 (s.drop t) with
  | (n, z, er) => if er ≠ 0 then (0, 0, t, er) else if m < n then (0, 0, t, 2) else if room && decide (s.length - t - z < n) then (0, 0, t, 3) else (n, z, t + z, 0)

set_option maxHeartbeats 2000000 in
theorem bound_any (s : Bytes) (t e : Nat) (m : Nat) (b : Nat) (w : World) (h : RD w b s t e) (ht : t ≤ s.length) (hs : s.length ≤ 1152921504606846976) (p : Nat × Nat × Nat × Nat) (hp : p = bnd false s t e m) :
    Calls Try.prog 78 #[.pointer (some ⟨b, 0, none⟩), .int .u64 (m : Int), .func (.func 79) #[.pointer (some ⟨b, 0, none⟩)] #[]] w fun x w' => x = .returned (.tuple #[.int .u64 (p.1 : Int), .int .i64 (p.2.1 : Int)]) ∧ RD w' b s p.2.2.1 p.2.2.2 ∧ Only b w w' := by
  have h0 := h.s
  have h1 := h.t
  have h2 := h.e
  have hh := hid h
  clear h
  have HPP := hid hp
  clear hp

  by_cases he : e = 0
  · subst he
    have HSC := fun W (h : RD W b s t 0) => scan_any s t 0 b W h ht hs
    have HS1 := scan0_one (s.drop t)
    have HP : Hid (bnd false s t 0 m = match scan0 (s.drop t) with | (n, z, er) => if er ≠ 0 then (0, 0, t, er) else if m < n then (0, 0, t, 2) else if false && decide (s.length - t - z < n) then (0, 0, t, 3) else (n, z, t + z, 0)) := by
      show bnd _ _ _ _ _ = _
      unfold bnd
      rw [if_neg (by simp)]
    generalize scan0 (s.drop t) = q at *
    obtain ⟨n, z, er⟩ := q
    simp only at HSC HS1
    go_enter Try.func78, Try.ntmps78
    go_wp2_with fail
    refine (HSC _ hh.out).mono ?_
    rintro x w1 ⟨rfl, hb1⟩
    have hr1 := hh.out.below hb1
    have hh1 := hid hr1
    have g0 := hr1.s
    have g1 := hr1.t
    have g2 := hr1.e
    have f1 := hr1.free 1
    have f2 := hr1.free 2
    have hb1' := Only.of_below (b := b) hb1
    clear hr1 h0 h1 h2
    by_cases her : er = 0
    · subst her
      obtain ⟨hn, hz, hzl, _⟩ := HS1 n z rfl
      rw [List.length_drop] at hzl
      unfold top64 at hn
      clear HS1 HSC
      by_cases hmn : m < n
      · have HX : Hid (p = (0, 0, t, 2)) := by show p = _; rw [HPP.out, HP.out]; simp [hmn]
        obtain rfl := HX.out
        go_wp2_with fail
        go_ret2
        exact ⟨rfl, hh1.out.setE 2, hb1'.set 2 _⟩
      · have HX : Hid (p = (n, z, t + z, 0)) := by show p = _; rw [HPP.out, HP.out]; simp [hmn]
        obtain rfl := HX.out
        go_wp2_with fail
        refine (rany_any _ _ _ _).mono ?_
        rintro x w2 ⟨rfl, rfl⟩
        go_wp2_with fail
        go_ret2
        exact ⟨rfl, hh1.out.setT (t + z), hb1'.set 1 _⟩
    · have he2 : ((er : Int) == 0) = false := by simpa using her
      have he3 : ((er : Int) != 0) = true := by simpa using her
      have HX : Hid (p = (0, 0, t, er)) := by show p = _; rw [HPP.out, HP.out]; simp [her]
      obtain rfl := HX.out
      go_wp2_with fail
      go_ret2
      exact ⟨rfl, hh1.out.setE er, hb1'.set 2 _⟩
  · have he2 : ((e : Int) == 0) = false := by simpa using he
    have he3 : ((e : Int) != 0) = true := by simpa using he
    obtain rfl : p = (0, 0, t, e) := by rw [HPP.out]; unfold bnd; rw [if_pos he]
    go_enter Try.func78, Try.ntmps78
    go_wp2_with fail
    go_ret2
    exact ⟨rfl, hh.out, Only.refl _ _⟩

set_option maxHeartbeats 2000000 in
theorem bound_room (s : Bytes) (t e : Nat) (m : Nat) (b : Nat) (w : World) (h : RD w b s t e) (ht : t ≤ s.length) (hs : s.length ≤ 1152921504606846976) (p : Nat × Nat × Nat × Nat) (hp : p = bnd true s t e m) :
    Calls Try.prog 78 #[.pointer (some ⟨b, 0, none⟩), .int .u64 (m : Int), .func (.func 83) #[.pointer (some ⟨b, 0, none⟩)] #[]] w fun x w' => x = .returned (.tuple #[.int .u64 (p.1 : Int), .int .i64 (p.2.1 : Int)]) ∧ RD w' b s p.2.2.1 p.2.2.2 ∧ Only b w w' := by
  have h0 := h.s
  have h1 := h.t
  have h2 := h.e
  have hh := hid h
  clear h
  have HPP := hid hp
  clear hp

  by_cases he : e = 0
  · subst he
    have HSC := fun W (h : RD W b s t 0) => scan_any s t 0 b W h ht hs
    have HS1 := scan0_one (s.drop t)
    have HP : Hid (bnd true s t 0 m = match scan0 (s.drop t) with | (n, z, er) => if er ≠ 0 then (0, 0, t, er) else if m < n then (0, 0, t, 2) else if true && decide (s.length - t - z < n) then (0, 0, t, 3) else (n, z, t + z, 0)) := by
      show bnd _ _ _ _ _ = _
      unfold bnd
      rw [if_neg (by simp)]
    generalize scan0 (s.drop t) = q at *
    obtain ⟨n, z, er⟩ := q
    simp only at HSC HS1
    go_enter Try.func78, Try.ntmps78
    go_wp2_with fail
    refine (HSC _ hh.out).mono ?_
    rintro x w1 ⟨rfl, hb1⟩
    have hr1 := hh.out.below hb1
    have hh1 := hid hr1
    have g0 := hr1.s
    have g1 := hr1.t
    have g2 := hr1.e
    have f1 := hr1.free 1
    have f2 := hr1.free 2
    have hb1' := Only.of_below (b := b) hb1
    clear hr1 h0 h1 h2
    by_cases her : er = 0
    · subst her
      obtain ⟨hn, hz, hzl, _⟩ := HS1 n z rfl
      rw [List.length_drop] at hzl
      unfold top64 at hn
      clear HS1 HSC
      by_cases hmn : m < n
      · have HX : Hid (p = (0, 0, t, 2)) := by show p = _; rw [HPP.out, HP.out]; simp [hmn]
        obtain rfl := HX.out
        go_wp2_with fail
        go_ret2
        exact ⟨rfl, hh1.out.setE 2, hb1'.set 2 _⟩
      · by_cases hrm : s.length - t - z < n
        · have HX : Hid (p = (0, 0, t, 3)) := by show p = _; rw [HPP.out, HP.out]; simp [hmn, hrm]
          obtain rfl := HX.out
          have HR := fun W (h : RD W b s t 0) => room_any s t 0 n z b W h (by omega) hs
          rw [if_pos hrm] at HR
          go_wp2_with fail
          refine (HR _ hh1.out).mono ?_
          rintro x w2 ⟨rfl, hb2⟩
          have hr2 := hh1.out.below hb2
          have hh2 := hid hr2
          have k0 := hr2.e
          have k2 := hr2.free 2
          have hb2' := hb1'.trans (Only.of_below hb2)
          clear hr2 g0 g1 g2 f1 f2
          go_wp2_with fail
          go_ret2
          exact ⟨rfl, hh2.out.setE 3, hb2'.set 2 _⟩
        · have HX : Hid (p = (n, z, t + z, 0)) := by show p = _; rw [HPP.out, HP.out]; simp [hmn, hrm]
          obtain rfl := HX.out
          have HR := fun W (h : RD W b s t 0) => room_any s t 0 n z b W h (by omega) hs
          rw [if_neg hrm] at HR
          go_wp2_with fail
          refine (HR _ hh1.out).mono ?_
          rintro x w2 ⟨rfl, hb2⟩
          have hr2 := hh1.out.below hb2
          have hh2 := hid hr2
          have k0 := hr2.t
          have k2 := hr2.free 1
          have hb2' := hb1'.trans (Only.of_below hb2)
          clear hr2 g0 g1 g2 f1 f2
          go_wp2_with fail
          go_ret2
          exact ⟨rfl, hh2.out.setT (t + z), hb2'.set 1 _⟩
    · have he2 : ((er : Int) == 0) = false := by simpa using her
      have he3 : ((er : Int) != 0) = true := by simpa using her
      have HX : Hid (p = (0, 0, t, er)) := by show p = _; rw [HPP.out, HP.out]; simp [her]
      obtain rfl := HX.out
      go_wp2_with fail
      go_ret2
      exact ⟨rfl, hh1.out.setE er, hb1'.set 2 _⟩
  · have he2 : ((e : Int) == 0) = false := by simpa using he
    have he3 : ((e : Int) != 0) = true := by simpa using he
    obtain rfl : p = (0, 0, t, e) := by rw [HPP.out]; unfold bnd; rw [if_pos he]
    go_enter Try.func78, Try.ntmps78
    go_wp2_with fail
    go_ret2
    exact ⟨rfl, hh.out, Only.refl _ _⟩

end Go.Proofs.Ytmehcogaopackaa
