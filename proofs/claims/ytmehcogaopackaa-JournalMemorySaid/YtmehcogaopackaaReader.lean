/-
  The walks of pack.Open and of the reader's End; the reader in memory.
-/
import Derived.Test.YtmehcogaopackaaText
namespace Go.Proofs.Ytmehcogaopackaa
open Go.RowKit

/-- the reader in block b: its bytes, its place, its fault -/
def RD (w : World) (b : Nat) (s : Bytes) (t e : Nat) : Prop := w.heap[b]? = some (.cells #[.string (str s), .int .i64 (t : Int), .int .i64 (e : Int)] 137)
theorem RD.s {w b s t e} (h : RD w b s t e) : w.cell? ⟨b, 0, none⟩ = some (.string (str s)) := by unfold RD at h; simp [World.cell?, h]
theorem RD.t {w b s t e} (h : RD w b s t e) : w.cell? ⟨b, 1, none⟩ = some (.int .i64 (t : Int)) := by unfold RD at h; simp [World.cell?, h]
theorem RD.e {w b s t e} (h : RD w b s t e) : w.cell? ⟨b, 2, none⟩ = some (.int .i64 (e : Int)) := by unfold RD at h; simp [World.cell?, h]
theorem RD.lt {w b s t e} (h : RD w b s t e) : b < w.heap.size := World.block_lt_of_cell? _ _ h.s
theorem RD.free {w b s t e} (h : RD w b s t e) (o : Nat) : w.frozen? ⟨b, o, none⟩ = false := by unfold RD at h; simp [World.frozen?, h]
theorem RD.setT {w b s t e} (h : RD w b s t e) (t' : Nat) : RD (w.setCell ⟨b, 1, none⟩ (.int .i64 (t' : Int))) b s t' e := by
  unfold RD at *
  simp [World.setCell, Array.getElem?_modify, h]
theorem RD.setE {w b s t e} (h : RD w b s t e) (e' : Nat) : RD (w.setCell ⟨b, 2, none⟩ (.int .i64 (e' : Int))) b s t e' := by
  unfold RD at *
  simp [World.setCell, Array.getElem?_modify, h]
theorem RD.drewN {w b s t e} (h : RD w b s t e) (N : Nat) : RD (w.drewN N) b s t e := h
theorem RD.below {w w' b s t e} (h : RD w b s t e) (hb : Below w.heap.size w w') : RD w' b s t e := (hb.block b h.lt).trans h

/-- what a call on the reader in block b may turn: that block alone -/
abbrev Only (b : Nat) (w w' : World) : Prop := w.grownBy w' (some b)
theorem Only.of_below {b : Nat} {w w' : World} (h : Below w.heap.size w w') : Only b w w' := ⟨h.os, h.tape, h.output, h.size, fun k hk _ => h.block k hk⟩
theorem Only.refl (b : Nat) (w : World) : Only b w w := .of_below (Below.refl _ _)
theorem Only.trans {b : Nat} {w w1 w2 : World} (h : Only b w w1) (k : Only b w1 w2) : Only b w w2 :=
  ⟨k.os.trans h.os, k.tape.trans h.tape, k.output.trans h.output, Nat.le_trans h.size k.size, fun j hj hb => (k.block j (Nat.lt_of_lt_of_le hj h.size) hb).trans (h.block j hj hb)⟩
theorem Only.below {b : Nat} {w w' : World} (h : Only b w w') (hlt : b < w.heap.size) : Below b w w' :=
  ⟨h.os, h.tape, h.output, h.size, fun k hk => h.block k (Nat.lt_trans hk hlt) (fun e => by cases e; exact Nat.lt_irrefl _ hk)⟩
theorem Only.set {b : Nat} {w w' : World} (h : Only b w w') (o : Nat) (v : Value) : Only b w (w'.setCell ⟨b, o, none⟩ v) :=
  h.trans ⟨rfl, rfl, rfl, by simp [World.setCell], fun k _ hk => Below.heap_setCell _ _ _ _ (fun e => hk (by rw [e]))⟩
theorem Only.drewN {b : Nat} {w w' : World} (h : Only b w w') (n : Nat) : Only b w (w'.drewN n) := h.trans (.of_below (below_drewN (Below.refl _ _) n))
theorem Only.cell {b : Nat} {w w' : World} (h : Only b w w') {p : Addr} {v : Value} (hne : p.block ≠ b) (hc : w.cell? p = some v) : w'.cell? p = some v := by
  have := h.block p.block (World.block_lt_of_cell? _ _ hc) (fun e => hne (by cases e; rfl))
  rw [← hc]
  unfold World.cell?
  rw [this]

set_option maxHeartbeats 1000000 in
theorem open_any (s : Bytes) (w : World) :
    Calls Try.prog 58 #[.string (str s)] w fun e w' => e = .returned (.pointer (some ⟨w.heap.size, 0, none⟩)) ∧ RD w' w.heap.size s 0 0 ∧ Below w.heap.size w w' := by
  go_enter Try.func58, Try.ntmps58
  go_wp2_with fail
  go_ret
  exact ⟨rfl, by unfold RD; exact Array.getElem?_push_size, (Below.refl _ _).alloc (Nat.le_refl _) _⟩
set_option maxHeartbeats 1000000 in
theorem end_only (s : Bytes) (t e : Nat) (b : Nat) (w : World) (h : RD w b s t e) :
    Calls Try.prog 60 #[.pointer (some ⟨b, 0, none⟩)] w fun x w' => x = .returned (.int .i64 ((if e = 0 ∧ t < s.length then 9 else e : Nat) : Int)) ∧ RD w' b s t (if e = 0 ∧ t < s.length then 9 else e) ∧ Only b w w' := by
  have h0 := h.s
  have h1 := h.t
  have h2 := h.e
  have hz : (str s).size = s.length := str_size _
  have hh := hid h
  have hf := h.free 2
  clear h
  by_cases he : e = 0
  · subst he
    by_cases hl : t < s.length
    · rw [if_pos ⟨rfl, hl⟩]
      go_enter Try.func60, Try.ntmps60
      go_wp2_with fail
      go_quiet (fail)
      go_wp2_with fail
      go_ret
      exact ⟨rfl, (hh.out.drewN _).setE 9, ((Only.refl b w).drewN _).set 2 _⟩
    · rw [if_neg (fun c => hl c.2)]
      go_enter Try.func60, Try.ntmps60
      go_wp2_with fail
      go_quiet (fail)
      go_wp2_with fail
      go_ret
      exact ⟨rfl, hh.out.drewN _, (Only.refl b w).drewN _⟩
  · have he2 : ((e : Int) == 0) = false := by simpa using he
    rw [if_neg (fun c => he c.1)]
    go_enter Try.func60, Try.ntmps60
    go_wp2_with fail
    go_quiet (fail)
    go_wp2_with fail
    go_ret
    exact ⟨rfl, hh.out.drewN _, (Only.refl b w).drewN _⟩
theorem end_any (s : Bytes) (t e : Nat) (b : Nat) (w : World) (h : RD w b s t e) :
    Calls Try.prog 60 #[.pointer (some ⟨b, 0, none⟩)] w fun x w' => x = .returned (.int .i64 ((if e = 0 ∧ t < s.length then 9 else e : Nat) : Int)) ∧ RD w' b s t (if e = 0 ∧ t < s.length then 9 else e) ∧ Below b w w' :=
  (end_only s t e b w h).mono fun _ _ ⟨x, y, z⟩ => ⟨x, y, z.below h.lt⟩
end Go.Proofs.Ytmehcogaopackaa
