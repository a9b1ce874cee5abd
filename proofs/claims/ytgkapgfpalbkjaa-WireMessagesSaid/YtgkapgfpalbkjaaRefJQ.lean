/-
  The reference's reader beside a variable of many cells; its number.
-/
import Derived.Test.YtgkapgfpalbkjaaRefRead
import Derived.Test.YtgkapgfpalbkjaaWReadRq
namespace Go.Proofs.Ytgkapgfpalbkjaa
open Go.RowKit
set_option linter.unusedVariables false
set_option linter.unusedSimpArgs false
/-- a number that is told as an int -/
def numI (s : Bytes) (st : Nat × Nat) : Int × (Nat × Nat) := (if 1099511627776 < (pNum s st).1 then -1 else ((pNum s st).1 : Nat), (pNum s st).2)
/-- the reader in block b, the variable in block k, and that the rest is as it was in w0 -/
def JQ (s : Bytes) (b k : Nat) (t : TypeId) (w0 : World) (cs : Array Value) (st : Nat × Nat) (W : World) : Prop := RR W b s st ∧ W.heap[k]? = some (.cells cs t) ∧ Kept2 b k w0 W ∧ b ≠ k
theorem Kept2.trans' {b k : Nat} {w w1 w2 : World} (h : Kept2 b k w w1) (g : w2.os = w1.os ∧ w2.tape = w1.tape ∧ w2.output = w1.output ∧ w1.heap.size ≤ w2.heap.size ∧ ∀ j, j < w.heap.size → w2.heap[j]? = w1.heap[j]?) : Kept2 b k w w2 :=
  ⟨g.1.trans h.1, g.2.1.trans h.2.1, g.2.2.1.trans h.2.2.1, Nat.le_trans h.2.2.2.1 g.2.2.2.1, fun j hj h1 h2 => (g.2.2.2.2 j hj).trans (h.2.2.2.2 j hj h1 h2)⟩
theorem JQ.blk {s b k t w0 cs st W} (h : JQ s b k t w0 cs st W) : W.heap[k]? = some (.cells cs t) := h.2.1
theorem JQ.lt {s b k t w0 cs st W} (h : JQ s b k t w0 cs st W) : k < W.heap.size := (Array.getElem?_eq_some_iff.1 h.2.1).1
theorem JQ.at {s b k t w0 cs st W} (h : JQ s b k t w0 cs st W) (o : Nat) (v : Value) (hv : cs[o]? = some v) : W.cell? ⟨k, o, none⟩ = some v := cell_in h.2.1 o v hv
theorem JQ.free {s b k t w0 cs st W} (h : JQ s b k t w0 cs st W) (o : Nat) : W.frozen? ⟨k, o, none⟩ = false := free_in h.2.1 o
theorem JQ.only {s b k t w0 cs st st' W W'} (h : JQ s b k t w0 cs st W) (ho : Only b W W') (hr : RR W' b s st') : JQ s b k t w0 cs st' W' :=
  ⟨hr, (ho.block k h.lt (fun e => h.2.2.2 (by cases e; rfl))).trans h.2.1, h.2.2.1.trans (.only ho), h.2.2.2⟩
theorem JQ.set {s b k t w0 cs st W} (h : JQ s b k t w0 cs st W) (o : Nat) (v : Value) : JQ s b k t w0 (cs.setIfInBounds o v) st (W.setCell ⟨k, o, none⟩ v) := by
  obtain ⟨⟨pl, h1, h2⟩, h3, h4, h5⟩ := h
  exact ⟨⟨pl, (Below.heap_setCell _ _ _ _ h5).trans h1, h2⟩, heap_set h3 o v, h4.set o v, h5⟩
theorem blk_alloc' {W : World} {k : Nat} {o : Obj} (h : W.heap[k]? = some o) (o' : Obj) : (W.alloc o').heap[k]? = some o := (heap_alloc_old _ _ (Array.getElem?_eq_some_iff.1 h).1).trans h
theorem blk_below' {W W' : World} {k : Nat} {o : Obj} (h : W.heap[k]? = some o) (hb : Below W.heap.size W W') : W'.heap[k]? = some o := (hb.block k (Array.getElem?_eq_some_iff.1 h).1).trans h
theorem JQ.below {s b k t w0 cs st W W'} (h : JQ s b k t w0 cs st W) (hb : Below W.heap.size W W') : JQ s b k t w0 cs st W' := by
  obtain ⟨⟨pl, h1, h2⟩, h3, h4, h5⟩ := h
  exact ⟨⟨pl, blk_below' h1 hb, h2⟩, blk_below' h3 hb, h4.trans (.below hb), h5⟩
theorem rrNumber {s : Bytes} {st : Nat × Nat} {b : Nat} {w : World} (h : RR w b s st) (hs : s.length ≤ 1152921504606846976) :
    Calls Try.prog 42 #[.pointer (some ⟨b, 0, none⟩)] w fun x w' => x = .returned (.int .i64 (numI s st).1) ∧ RR w' b s (numI s st).2 ∧ Only b w w' := by
  have H := hid (rrNum h hs)
  have hlt := pNum_lt s st
  unfold top64 at hlt
  have HI := hid (show numI s st = (if 1099511627776 < (pNum s st).1 then -1 else (((pNum s st).1 : Nat) : Int), (pNum s st).2) from rfl)
  clear h
  generalize pNum s st = q at *
  obtain ⟨n, st'⟩ := q
  simp only at H HI hlt
  by_cases hb : 1099511627776 < n
  · rw [if_pos hb] at HI
    go_enter Try.func42, Try.ntmps42
    go_wp2_with fail
    refine Calls.mono H.out ?_
    rintro e w1 ⟨rfl, hr1, ho1⟩
    go_wp2_with fail
    go_ret
    rw [HI.out]
    exact ⟨rfl, hr1, ho1⟩
  · rw [if_neg hb] at HI
    go_enter Try.func42, Try.ntmps42
    go_wp2_with fail
    refine Calls.mono H.out ?_
    rintro e w1 ⟨rfl, hr1, ho1⟩
    go_wp2_with fail
    go_ret
    rw [HI.out]
    exact ⟨rfl, hr1, ho1⟩
theorem jqNum {s : Bytes} {b k : Nat} {t : TypeId} {w0 W : World} {cs : Array Value} {st st' : Nat × Nat} {n : Nat} (hs : s.length ≤ 1152921504606846976) (E : pNum s st = (n, st')) (h : JQ s b k t w0 cs st W) :
    Calls Try.prog 43 #[.pointer (some ⟨b, 0, none⟩)] W fun x W' => x = .returned (.int .u64 (n : Int)) ∧ JQ s b k t w0 cs st' W' ∧ Only b W W' :=
  (rrNum h.1 hs).mono fun _ _ ⟨e, hr, ho⟩ => by rw [E] at e hr; exact ⟨e, h.only ho hr, ho⟩
theorem jqNumber {s : Bytes} {b k : Nat} {t : TypeId} {w0 W : World} {cs : Array Value} {st st' : Nat × Nat} {n : Int} (hs : s.length ≤ 1152921504606846976) (E : numI s st = (n, st')) (h : JQ s b k t w0 cs st W) :
    Calls Try.prog 42 #[.pointer (some ⟨b, 0, none⟩)] W fun x W' => x = .returned (.int .i64 n) ∧ JQ s b k t w0 cs st' W' ∧ Only b W W' :=
  (rrNumber h.1 hs).mono fun _ _ ⟨e, hr, ho⟩ => by rw [E] at e hr; exact ⟨e, h.only ho hr, ho⟩
theorem jqCount {m : Nat} (hm : m ≤ 1000000000) {s : Bytes} {b k : Nat} {t : TypeId} {w0 W : World} {cs : Array Value} {st st' : Nat × Nat} {n : Nat} (hs : s.length ≤ 1152921504606846976) (E : pCount m s st = (n, st')) (h : JQ s b k t w0 cs st W) :
    Calls Try.prog 45 #[.pointer (some ⟨b, 0, none⟩), .int .i64 (m : Int)] W fun x W' => x = .returned (.int .i64 (n : Int)) ∧ JQ s b k t w0 cs st' W' ∧ Only b W W' :=
  (rrCount m hm h.1 hs).mono fun _ _ ⟨e, hr, ho⟩ => by rw [E] at e hr; exact ⟨e, h.only ho hr, ho⟩
theorem jqText {m : Nat} (hm : m ≤ 1000000000) {s x : Bytes} {b k : Nat} {t : TypeId} {w0 W : World} {cs : Array Value} {st st' : Nat × Nat} (hs : s.length ≤ 1152921504606846976) (E : pText m s st = (x, st')) (h : JQ s b k t w0 cs st W) :
    Calls Try.prog 44 #[.pointer (some ⟨b, 0, none⟩), .int .i64 (m : Int)] W fun e W' => e = .returned (.string (str x)) ∧ JQ s b k t w0 cs st' W' ∧ Only b W W' :=
  (rrText m hm h.1 hs).mono fun _ _ ⟨e, hr, ho⟩ => by rw [E] at e hr; exact ⟨e, h.only ho hr, ho⟩
theorem JQ.other {s b k t w0 cs st W} (h : JQ s b k t w0 cs st W) {g : Nat} (h1 : g ≠ b) (h2 : g ≠ k) (h3 : w0.heap.size ≤ g) (o : Nat) (v : Value) : JQ s b k t w0 cs st (W.setCell ⟨g, o, none⟩ v) := by
  obtain ⟨⟨pl, g1, g2⟩, g3, g4, g5⟩ := h
  exact ⟨⟨pl, (Below.heap_setCell _ _ _ _ (Ne.symm h1)).trans g1, g2⟩, (Below.heap_setCell _ _ _ _ (Ne.symm h2)).trans g3,
    g4.trans' ⟨rfl, rfl, rfl, by simp [World.setCell], fun j hj => Below.heap_setCell _ _ _ _ (by show j ≠ g; omega)⟩, g5⟩
theorem JQ.grown {s b k t w0 cs st W W'} {row : Option Nat} (h : JQ s b k t w0 cs st W) (hg : W.grownBy W' row) (h1 : row ≠ some b) (h2 : row ≠ some k) (h3 : ∀ j, row = some j → w0.heap.size ≤ j) : JQ s b k t w0 cs st W' := by
  obtain ⟨⟨pl, g1, g2⟩, g3, g4, g5⟩ := h
  exact ⟨⟨pl, (hg.block b (Array.getElem?_eq_some_iff.1 g1).1 (fun e => h1 e.symm)).trans g1, g2⟩, (hg.block k (Array.getElem?_eq_some_iff.1 g3).1 (fun e => h2 e.symm)).trans g3,
    g4.trans' ⟨hg.os, hg.tape, hg.output, hg.size, fun j hj => hg.block j (Nat.lt_of_lt_of_le hj g4.2.2.2.1) (fun e => by have := h3 j e.symm; omega)⟩, g5⟩
theorem grown_set (w : World) (g o : Nat) (v : Value) : w.grownBy (w.setCell ⟨g, o, none⟩ v) (some g) := ⟨rfl, rfl, rfl, by simp [World.setCell], fun j _ h => Below.heap_setCell _ _ _ _ (fun e => h (by rw [e]))⟩
end Go.Proofs.Ytgkapgfpalbkjaa
