/-
  A chain of reads beside a variable of many cells: the state, the reads, the stores into the variable.
-/
import Derived.Test.YtmehcogaopackaaWireP
import Derived.Test.YtmehcogaopackaaWRead
import Derived.Test.YtmehcogaopackaaFloat
import Derived.Deep.RegionHeld3
import Derived.Laws.Tables
namespace Go.Proofs.Ytmehcogaopackaa
open Go.RowKit

/-- the state along the chain of reads: the reader, and that the rest is as it was in w2 -/
def XR (s : Bytes) (b : Nat) (w2 : World) (st : Nat × Nat) (W : World) : Prop := RS W b s st ∧ Only b w2 W
/-- the variable that is made there -/
def YR (b : Nat) (w2 : World) (zs : Array Value) (t : TypeId) (k : Nat) (W : World) : Prop := W.heap[k]? = some (.cells zs t) ∧ w2.heap.size ≤ k ∧ b < w2.heap.size ∧ k < W.heap.size
theorem YR.kept {b k : Nat} {w2 W W' : World} {zs : Array Value} {t : TypeId} (h : YR b w2 zs t k W) (ho : Only b W W') : YR b w2 zs t k W' :=
  ⟨(ho.block k h.2.2.2 (fun e => by cases e; have := h.2.1; have := h.2.2.1; omega)).trans h.1, h.2.1, h.2.2.1, Nat.lt_of_lt_of_le h.2.2.2 ho.size⟩
theorem xyNum {s : Bytes} {st st' : Nat × Nat} {n b : Nat} {w2 : World} {zs : Array Value} {t : TypeId} (hs : s.length ≤ 1152921504606846976) (E : pNum s st = (n, st')) : ∀ W, XR s b w2 st W →
    Calls Try.prog 76 #[.pointer (some ⟨b, 0, none⟩)] W fun x W' => x = .returned (.int .u64 (n : Int)) ∧ XR s b w2 st' W' ∧ (∀ k, YR b w2 zs t k W → YR b w2 zs t k W') :=
  fun _ hX => (rsNumE E hX.1 hs).mono fun _ _ ⟨e, hr, ho⟩ => ⟨e, ⟨hr, hX.2.trans ho⟩, fun _ hY => hY.kept ho⟩
theorem xyCount {m : Nat} (hm : m ≤ maxLen) {s : Bytes} {st st' : Nat × Nat} {n b : Nat} {w2 : World} {zs : Array Value} {t : TypeId} (hs : s.length ≤ 1152921504606846976) (E : pCount m s st = (n, st')) : ∀ W, XR s b w2 st W →
    Calls Try.prog 59 #[.pointer (some ⟨b, 0, none⟩), .int .i64 (m : Int)] W fun x W' => x = .returned (.int .i64 (n : Int)) ∧ XR s b w2 st' W' ∧ (∀ k, YR b w2 zs t k W → YR b w2 zs t k W') :=
  fun _ hX => (rsCountE hm E hX.1 hs).mono fun _ _ ⟨e, hr, ho⟩ => ⟨e, ⟨hr, hX.2.trans ho⟩, fun _ hY => hY.kept ho⟩
theorem xyText {m : Nat} (hm : m ≤ maxLen) {s x : Bytes} {st st' : Nat × Nat} {b : Nat} {w2 : World} {zs : Array Value} {t : TypeId} (hs : s.length ≤ 1152921504606846976) (E : pText m s st = (x, st')) : ∀ W, XR s b w2 st W →
    Calls Try.prog 77 #[.pointer (some ⟨b, 0, none⟩), .int .i64 (m : Int)] W fun e W' => e = .returned (.string (str x)) ∧ XR s b w2 st' W' ∧ (∀ k, YR b w2 zs t k W → YR b w2 zs t k W') :=
  fun _ hX => (rsTextE hm E hX.1 hs).mono fun _ _ ⟨e, hr, ho⟩ => ⟨e, ⟨hr, hX.2.trans ho⟩, fun _ hY => hY.kept ho⟩
theorem Fork.start {P : Program} {ops : Array Oper} {Q : Exit → Act → World → Prop} {md : Region.Mode} {S : World → Prop} {X : World → Prop} {Y : Nat → World → Prop} {al : Nat} {d : Tmp} {fuel : Nat} {listed : Array Bool} {a : Act} {W : World}
    (h : Fork P md ops Q S al d X Y fuel listed a) (hX : X W) : wpAnyH P md ops Q S (fuel + 1) listed a W := h.1 W hX

/-- the reader in block b, the variable in block k, and that the rest is as it was in w0 -/
def JR (s : Bytes) (b k : Nat) (t : TypeId) (w0 : World) (cs : Array Value) (st : Nat × Nat) (W : World) : Prop := RS W b s st ∧ W.heap[k]? = some (.cells cs t) ∧ Kept2 b k w0 W ∧ b ≠ k
theorem JR.rs {s b k t w0 cs st W} (h : JR s b k t w0 cs st W) : RS W b s st := h.1
theorem JR.blk {s b k t w0 cs st W} (h : JR s b k t w0 cs st W) : W.heap[k]? = some (.cells cs t) := h.2.1
theorem JR.kept {s b k t w0 cs st W} (h : JR s b k t w0 cs st W) : Kept2 b k w0 W := h.2.2.1
theorem JR.lt {s b k t w0 cs st W} (h : JR s b k t w0 cs st W) : k < W.heap.size := (Array.getElem?_eq_some_iff.1 h.2.1).1
theorem JR.at {s b k t w0 cs st W} (h : JR s b k t w0 cs st W) (o : Nat) (v : Value) (hv : cs[o]? = some v) : W.cell? ⟨k, o, none⟩ = some v := cell_in h.2.1 o v hv
theorem JR.free {s b k t w0 cs st W} (h : JR s b k t w0 cs st W) (o : Nat) : W.frozen? ⟨k, o, none⟩ = false := free_in h.2.1 o
theorem JR.other {s b k t w0 cs st W} (h : JR s b k t w0 cs st W) {c : Nat} {v : Value} (hc : w0.cell? ⟨c, 0, none⟩ = some v) (h1 : c ≠ b) (h2 : c ≠ k) : W.cell? ⟨c, 0, none⟩ = some v :=
  (World.cell?_of_block (h.2.2.1.2.2.2.2 c (World.block_lt_of_cell? _ _ hc) h1 h2)).trans hc
theorem JR.only {s b k t w0 cs st st' W W'} (h : JR s b k t w0 cs st W) (ho : Only b W W') (hr : RS W' b s st') : JR s b k t w0 cs st' W' :=
  ⟨hr, (ho.block k h.lt (fun e => h.2.2.2 (by cases e; rfl))).trans h.2.1, h.2.2.1.trans (.only ho), h.2.2.2⟩
theorem JR.below {s b k t w0 cs st W W'} (h : JR s b k t w0 cs st W) (ho : Below W.heap.size W W') : JR s b k t w0 cs st W' := h.only (.of_below ho) (h.1.below ho)
theorem JR.set {s b k t w0 cs st W} (h : JR s b k t w0 cs st W) (o : Nat) (v : Value) : JR s b k t w0 (cs.setIfInBounds o v) st (W.setCell ⟨k, o, none⟩ v) := by
  refine ⟨⟨?_, h.1.2⟩, heap_set h.2.1 o v, h.2.2.1.set o v, h.2.2.2⟩
  have := h.1.1
  unfold RD at *
  rw [Below.heap_setCell _ _ _ _ h.2.2.2]
  exact this
theorem jrNum {s : Bytes} {b k : Nat} {t : TypeId} {w0 W : World} {cs : Array Value} {st st' : Nat × Nat} {n : Nat} (hs : s.length ≤ 1152921504606846976) (E : pNum s st = (n, st')) (h : JR s b k t w0 cs st W) :
    Calls Try.prog 76 #[.pointer (some ⟨b, 0, none⟩)] W fun x W' => x = .returned (.int .u64 (n : Int)) ∧ JR s b k t w0 cs st' W' ∧ Only b W W' :=
  (rsNumE E h.1 hs).mono fun _ _ ⟨e, hr, ho⟩ => ⟨e, h.only ho hr, ho⟩
theorem jrCount {m : Nat} (hm : m ≤ maxLen) {s : Bytes} {b k : Nat} {t : TypeId} {w0 W : World} {cs : Array Value} {st st' : Nat × Nat} {n : Nat} (hs : s.length ≤ 1152921504606846976) (E : pCount m s st = (n, st')) (h : JR s b k t w0 cs st W) :
    Calls Try.prog 59 #[.pointer (some ⟨b, 0, none⟩), .int .i64 (m : Int)] W fun x W' => x = .returned (.int .i64 (n : Int)) ∧ JR s b k t w0 cs st' W' ∧ Only b W W' :=
  (rsCountE hm E h.1 hs).mono fun _ _ ⟨e, hr, ho⟩ => ⟨e, h.only ho hr, ho⟩
theorem jrText {m : Nat} (hm : m ≤ maxLen) {s x : Bytes} {b k : Nat} {t : TypeId} {w0 W : World} {cs : Array Value} {st st' : Nat × Nat} (hs : s.length ≤ 1152921504606846976) (E : pText m s st = (x, st')) (h : JR s b k t w0 cs st W) :
    Calls Try.prog 77 #[.pointer (some ⟨b, 0, none⟩), .int .i64 (m : Int)] W fun e W' => e = .returned (.string (str x)) ∧ JR s b k t w0 cs st' W' ∧ Only b W W' :=
  (rsTextE hm E h.1 hs).mono fun _ _ ⟨e, hr, ho⟩ => ⟨e, h.only ho hr, ho⟩
theorem Cells.kept2D {D : List Nat} {b k : Nat} {w w' : World} {v : Value} {n : Nat} {xs : List Value} (h : Cells D w v n xs) (hb : Kept2 b k w w') (hD : b ∈ D ∧ k ∈ D) : Cells D w' v n xs :=
  h.kept fun j hj hd => hb.2.2.2.2 j hj (fun e => hd (by rw [e]; exact hD.1)) (fun e => hd (by rw [e]; exact hD.2))
theorem Cells.rowD {D : List Nat} {k : Nat} {w : World} {v : Value} {n : Nat} {xs : List Value} (h : Cells D w v n xs) (hD : k ∈ D) (cs : Array Value) : Cells D (w.setRow k cs) v n xs :=
  h.kept fun j _ hd => setRow_other w k j cs (fun e => hd (by rw [e]; exact hD))
theorem below_row {B k : Nat} {w w' : World} (h : Below B w w') (hk : B ≤ k) (cs : Array Value) : Below B w (w'.setRow k cs) :=
  ⟨h.os, h.tape, h.output, by have := h.size; simpa [World.setRow] using this, fun j hj => (setRow_other w' k j cs (by omega)).trans (h.block j hj)⟩
end Go.Proofs.Ytmehcogaopackaa
