/-
  The walk of pack.Open; the reader in memory.
-/
import Derived.Test.YtkbnjckdkcfndaaNums
namespace Go.Proofs.Ytkbnjckdkcfndaa
open Go.RowKit

/-- the reader in block b: its bytes, its place, its fault -/
def RD (w : World) (b : Nat) (s : Bytes) (t e : Nat) : Prop := w.heap[b]? = some (.cells #[.string (str s), .int .i64 (t : Int), .int .i64 (e : Int)] 47)
theorem RD.s {w b s t e} (h : RD w b s t e) : w.cell? ⟨b, 0, none⟩ = some (.string (str s)) := by unfold RD at h; simp [World.cell?, h]
theorem RD.t {w b s t e} (h : RD w b s t e) : w.cell? ⟨b, 1, none⟩ = some (.int .i64 (t : Int)) := by unfold RD at h; simp [World.cell?, h]
theorem RD.e {w b s t e} (h : RD w b s t e) : w.cell? ⟨b, 2, none⟩ = some (.int .i64 (e : Int)) := by unfold RD at h; simp [World.cell?, h]
theorem RD.lt {w b s t e} (h : RD w b s t e) : b < w.heap.size := World.block_lt_of_cell? _ _ h.s
theorem RD.free {w b s t e} (h : RD w b s t e) (o : Nat) : w.frozen? ⟨b, o, none⟩ = false := by unfold RD at h; simp [World.frozen?, h]
theorem RD.setT {w b s t e} (h : RD w b s t e) (t' : Nat) : RD (w.setCell ⟨b, 1, none⟩ (.int .i64 (t' : Int))) b s t' e := by
  unfold RD at *
  simp [World.setCell, Array.getElem?_modify, h]
theorem RD.setE {w b s t e} (h : RD w b s t e) (e' : Nat) : RD (w.setCell ⟨b, 2, none⟩ (.int .i64 (e' : Int))) b s t e' := by
  unfold RD at *
  simp [World.setCell, Array.getElem?_modify, h]
theorem RD.drewN {w b s t e} (h : RD w b s t e) (N : Nat) : RD (w.drewN N) b s t e := h
theorem RD.below {w w' b s t e} (h : RD w b s t e) (hb : Below w.heap.size w w') : RD w' b s t e := (hb.block b h.lt).trans h

set_option maxHeartbeats 1000000 in
theorem open_any (s : Bytes) (w : World) :
    Calls Try.prog 15 #[.string (str s)] w fun e w' => e = .returned (.pointer (some ⟨w.heap.size, 0, none⟩)) ∧ RD w' w.heap.size s 0 0 ∧ Below w.heap.size w w' := by
  go_enter Try.func15, Try.ntmps15
  go_wp2_with fail
  go_ret
  exact ⟨rfl, by unfold RD; exact Array.getElem?_push_size, (Below.refl _ _).alloc (Nat.le_refl _) _⟩
set_option maxHeartbeats 1000000 in
theorem left_any (s : Bytes) (t e : Nat) (b : Nat) (w : World) (h : RD w b s t e) (ht : t ≤ s.length) (hs : s.length ≤ maxLen) :
    Calls Try.prog 16 #[.pointer (some ⟨b, 0, none⟩)] w fun e w' => e = .returned (.int .i64 ((s.length - t : Nat) : Int)) ∧ Below w.heap.size w w' := by
  have h0 := h.s
  have h1 := h.t
  have hz : (str s).size = s.length := str_size _
  unfold maxLen at hs
  clear h
  go_enter Try.func16, Try.ntmps16
  go_wp2_with fail
  go_quiet (fail)
  go_wp2_with fail
  rw [← Int.ofNat_sub ht]
  go_ret
  exact ⟨rfl, below_drewN (Below.refl _ _) _⟩
set_option maxHeartbeats 1000000 in
theorem fault_any (s : Bytes) (t e : Nat) (b : Nat) (w : World) (h : RD w b s t e) :
    Calls Try.prog 18 #[.pointer (some ⟨b, 0, none⟩)] w fun x w' => x = .returned (.tuple #[.int .i64 (e : Int), .int .i64 ((if e = 0 then 0 else t : Nat) : Int)]) ∧ Below w.heap.size w w' := by
  have h0 := h.s
  have h1 := h.t
  have h2 := h.e
  clear h
  by_cases he : e = 0
  · subst he
    go_enter Try.func18, Try.ntmps18
    go_wp2_with fail
    go_ret2
    exact ⟨rfl, Below.refl _ _⟩
  · have he2 : ((e : Int) == 0) = false := by simpa using he
    rw [if_neg he]
    go_enter Try.func18, Try.ntmps18
    go_wp2_with fail
    go_quiet (fail)
    go_wp2_with fail
    go_ret2
    exact ⟨rfl, below_drewN (Below.refl _ _) _⟩
set_option maxHeartbeats 1000000 in
theorem end_any (s : Bytes) (t e : Nat) (b : Nat) (w : World) (h : RD w b s t e) :
    Calls Try.prog 20 #[.pointer (some ⟨b, 0, none⟩)] w fun x w' => x = .returned (.int .i64 ((if e = 0 ∧ t < s.length then 9 else e : Nat) : Int)) ∧ RD w' b s t (if e = 0 ∧ t < s.length then 9 else e) ∧ Below b w w' := by
  have h0 := h.s
  have h1 := h.t
  have h2 := h.e
  have hz : (str s).size = s.length := str_size _
  have hh := hid h
  have hf := h.free 2
  clear h
  by_cases he : e = 0
  · subst he
    by_cases hl : t < s.length
    · rw [if_pos ⟨rfl, hl⟩]
      go_enter Try.func20, Try.ntmps20
      go_wp2_with fail
      go_quiet (fail)
      go_wp2_with fail
      go_ret
      exact ⟨rfl, (hh.out.drewN _).setE 9, Below.setCell (p := ⟨b, 2, none⟩) (below_drewN (Below.refl b w) _) (Nat.le_refl b) _⟩
    · rw [if_neg (fun c => hl c.2)]
      go_enter Try.func20, Try.ntmps20
      go_wp2_with fail
      go_quiet (fail)
      go_wp2_with fail
      go_ret
      exact ⟨rfl, hh.out.drewN _, below_drewN (Below.refl _ _) _⟩
  · have he2 : ((e : Int) == 0) = false := by simpa using he
    rw [if_neg (fun c => he c.1)]
    go_enter Try.func20, Try.ntmps20
    go_wp2_with fail
    go_quiet (fail)
    go_wp2_with fail
    go_ret
    exact ⟨rfl, hh.out.drewN _, below_drewN (Below.refl _ _) _⟩
end Go.Proofs.Ytkbnjckdkcfndaa
