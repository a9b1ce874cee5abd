/-
  The walks of the two closures of wire.ReadRequest: a range, a flag.
-/
import Derived.Test.YtgkapgfpalbkjaaWSmall
import Derived.Deep.RegionHeld3
namespace Go.Proofs.Ytgkapgfpalbkjaa
open Go.RowKit
theorem RS.alloc {w b s st} (h : RS w b s st) (o : Obj) : RS (w.alloc o) b s st := h.below ((Below.refl _ _).alloc (Nat.le_refl _) o)
theorem keepSet {W : World} {c k o : Nat} {v x : Value} (h : W.cell? ⟨c, 0, none⟩ = some x) (hne : c ≠ k) : (W.setCell ⟨k, o, none⟩ v).cell? ⟨c, 0, none⟩ = some x :=
  (World.cell?_of_block (Below.heap_setCell _ _ _ _ hne)).trans h
/-- the block of two numbers that a result lies in -/
def Two (b k : Nat) (w : World) : Prop := w.heap[k]? = some (.cells #[.int .u64 0, .int .u64 0] 65) ∧ b ≠ k
theorem Two.new {b k : Nat} {w : World} (h : w.heap[k]? = some (.cells #[.int .u64 0, .int .u64 0] 65)) (hne : b ≠ k) : Two b k w := ⟨h, hne⟩
theorem Two.kept {b k : Nat} {w w' : World} (h : Two b k w) (hb : Only b w w') : Two b k w' :=
  ⟨(hb.block k (by
    rcases Nat.lt_or_ge k w.heap.size with h' | h'
    · exact h'
    · have := h.1; simp [Array.getElem?_eq_none h'] at this) (fun e => by cases e; exact h.2 rfl)).trans h.1, h.2⟩
theorem Two.c0 {b k : Nat} {w : World} (h : Two b k w) : w.cell? ⟨k, 0, none⟩ = some (.int .u64 0) := by simp [World.cell?, h.1]
theorem Two.c1 {b k : Nat} {w : World} (h : Two b k w) : w.cell? ⟨k, 1, none⟩ = some (.int .u64 0) := by simp [World.cell?, h.1]
theorem Two.f {b k : Nat} {w : World} (h : Two b k w) : ∀ o, w.frozen? ⟨k, o, none⟩ = false := fun o => by simp [World.frozen?, h.1]
set_option maxRecDepth 100000 in
set_option maxHeartbeats 4000000 in
theorem readRange_any (s : Bytes) (hs : s.length ≤ 1152921504606846976) (st : Nat × Nat) (b c : Nat) (hne : c ≠ b) (w : World) (hr : RS w b s st) (hc : w.cell? ⟨c, 0, none⟩ = some (.pointer (some ⟨b, 0, none⟩))) :
    Calls Try.prog 38 #[.pointer (some ⟨c, 0, none⟩)] w fun x w' => x = .returned (.agg #[.int .u64 ((pNum s st).1 : Int), .int .u64 ((pNum s (pNum s st).2).1 : Int)]) ∧ RS w' b s (pNum s (pNum s st).2).2 ∧ Only b w w' := by
  go_enter Try.func38, Try.ntmps38
  go_wp2_with fail
  have hr0 : RS (w.alloc (.cells #[.int .u64 0, .int .u64 0] 65)) b s st := hr.alloc _
  have hw0 : Below w.heap.size w (w.alloc (.cells #[.int .u64 0, .int .u64 0] 65)) := (Below.refl _ _).alloc (Nat.le_refl _) _
  have hc0 := (hw0.cell (p := ⟨c, 0, none⟩) (World.block_lt_of_cell? _ _ hc)).trans hc
  have hx : (w.alloc (.cells #[.int .u64 0, .int .u64 0] 65)).heap[w.heap.size]? = some (.cells #[.int .u64 0, .int .u64 0] 65) := Array.getElem?_push_size
  have hck : c ≠ w.heap.size := Nat.ne_of_lt (World.block_lt_of_cell? _ _ hc)
  have hkb : b ≠ w.heap.size := Nat.ne_of_lt hr.lt
  clear hr hc
  generalize w.alloc (.cells #[.int .u64 0, .int .u64 0] 65) = w0 at *
  generalize hke : w.heap.size = k at *
  go_region_held3 (fun w' => w'.cell? ⟨c, 0, none⟩ = some (.pointer (some ⟨b, 0, none⟩))) (first | exact hc0 | assumption | exact keepSet (keepSet (by assumption) hck) hck)
    (first | (go_at_call 35; refine Calls.mono (rsNum (by first | assumption | exact hr0) hs) ?_; rintro e w3 ⟨rfl, hr3, hb3⟩; have hc3 := hb3.cell hne (by first | assumption | exact hc0); (first | (have hx3 := Two.kept (by assumption) hb3) | (have hx3 := Two.kept (Two.new (by exact hx) hkb) hb3)); (have g0 := hx3.c0; have g1 := hx3.c1; have g2 := hx3.f)))
  clear g0 g1 g2
  go_wp2_with fail
  have hfin : ∀ (x y : Value), ((w3.setCell ⟨k, 0, none⟩ x).setCell ⟨k, 1, none⟩ y).heap[k]? = some (.cells #[x, y] 65) := fun x y => by
    simp [World.setCell, Array.getElem?_modify, hx3.1]
  generalize hWW : (w3.setCell ⟨k, 0, none⟩ (.int .u64 ((pNum s st).1 : Int))).setCell ⟨k, 1, none⟩ (.int .u64 ((pNum s (pNum s st).2).1 : Int)) = WW
  have hf := hfin (.int .u64 ((pNum s st).1 : Int)) (.int .u64 ((pNum s (pNum s st).2).1 : Int))
  rw [hWW] at hf
  have c0 : WW.cell? ⟨k, 0, none⟩ = some (.int .u64 ((pNum s st).1 : Int)) := by simp [World.cell?, hf]
  have c1 : WW.cell? ⟨k, 1, none⟩ = some (.int .u64 ((pNum s (pNum s st).2).1 : Int)) := by simp [World.cell?, hf]
  refine bodyPost_ret (v := .agg #[.int .u64 ((pNum s st).1 : Int), .int .u64 ((pNum s (pNum s st).2).1 : Int)]) (by simp [results, Try.results38, go_sem, c0, c1]) rfl ?_
  subst hWW
  have hbk : ∀ (W : World) (o : Nat) (x : Value), (W.setCell ⟨k, o, none⟩ x).heap[b]? = W.heap[b]? := fun W o x => Below.heap_setCell _ _ _ _ hkb
  refine ⟨rfl, ⟨?_, hr3.2⟩, ?_⟩
  · have := hr3.1
    unfold RD at *
    rw [hbk, hbk]
    exact this
  · have h1 : Only b w w0 := Only.of_below (by rw [hke]; exact hw0)
    have h2 : Only b w w3 := (h1.trans (Only.of_below (b := b) ((Below.refl _ _).drew))).trans (by first | exact Only.trans ‹_› hb3 | exact hb3)
    exact ⟨h2.os, h2.tape, h2.output, by simpa [World.setCell] using h2.size, fun j hj hjb => by
      have e1 : ∀ (W : World) (o : Nat) (x : Value), (W.setCell ⟨k, o, none⟩ x).heap[j]? = W.heap[j]? := fun W o x => Below.heap_setCell _ _ _ _ (by show j ≠ k; omega)
      rw [e1, e1]
      exact h2.block j hj hjb⟩
theorem readFlag_any (s : Bytes) (hs : s.length ≤ 1152921504606846976) (st : Nat × Nat) (b c : Nat) (w : World) (hr : RS w b s st) (hc : w.cell? ⟨c, 0, none⟩ = some (.pointer (some ⟨b, 0, none⟩))) :
    Calls Try.prog 40 #[.pointer (some ⟨c, 0, none⟩)] w fun x w' => x = .returned (.string (str (pText 32 s st).1)) ∧ RS w' b s (pText 32 s st).2 ∧ Only b w w' := by
  go_enter Try.func40, Try.ntmps40
  go_wp2_with fail
  refine (rsText 32 (by decide) hr hs).mono ?_
  rintro e w1 ⟨rfl, hr1, hb1⟩
  go_wp2_with fail
  go_ret
  exact ⟨rfl, hr1, hb1⟩
end Go.Proofs.Ytgkapgfpalbkjaa
