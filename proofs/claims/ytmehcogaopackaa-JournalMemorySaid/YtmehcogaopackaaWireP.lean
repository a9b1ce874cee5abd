/-
  PLAIN: requests: what may be, their bytes; lists that are read one after another; a slice's cells.
-/
import Derived.Test.YtmehcogaopackaaWState
namespace Go.Proofs.Ytmehcogaopackaa
open Go.RowKit

/-- a request -/
structure Rq where
  op : Int
  session : Nat
  number : Nat
  node : Int
  life : Nat
  tried : Nat
  box : Bytes
  dest : Bytes
  validity : Nat
  uids : List (Nat × Nat)
  flags : List Bytes
  how : Int
  has : Bool
  since : Nat
  hash : Bytes
  size : Nat
  sweeps : Nat
def Rq.zero : Rq := ⟨0, 0, 0, 0, 0, 0, [], [], 0, [], [], 0, false, 0, [], 0, 0⟩
/-- a request's cells -/
def Rq.cells (x : Rq) (vu vf : Value) : Array Value := #[.int .i64 x.op, .int .u64 x.session, .int .u64 x.number, .int .i64 x.node, .int .u64 x.life, .int .u64 x.tried, .string (str x.box), .string (str x.dest), .int .u64 x.validity, vu, vf, .int .i64 x.how, .bool x.has, .int .u64 x.since, .string (str x.hash), .int .u64 x.size, .int .u64 x.sweeps]
def rgVals (l : List (Nat × Nat)) : List Value := l.flatMap fun r => [.int .u64 r.1, .int .u64 r.2]
def strVals (l : List Bytes) : List Value := l.map fun b => .string (str b)
theorem rgVals_len (l : List (Nat × Nat)) : (rgVals l).length = 2 * l.length := by
  induction l with
  | nil => rfl
  | cons a l ih => simp only [rgVals, List.flatMap_cons, List.length_append, List.length_cons, List.length_nil] at *; omega
theorem strVals_len (l : List Bytes) : (strVals l).length = l.length := by simp [strVals]

/-- the slice value v of n elements has the cells xs; none of the blocks D holds them -/
def Cells (D : List Nat) (w : World) (v : Value) (n : Nat) (xs : List Value) : Prop :=
  ∃ (a : Option Addr) (cap : Nat), v = .slice a n cap ∧ n ≤ cap ∧ (0 < xs.length → ∃ b off, a = some ⟨b, off, none⟩ ∧ b ∉ D ∧ ∀ j (h : j < xs.length), w.cell? ⟨b, off + j, none⟩ = some xs[j])
theorem Cells.kept {D : List Nat} {w w' : World} {v : Value} {n : Nat} {xs : List Value} (h : Cells D w v n xs) (hb : ∀ j, j < w.heap.size → j ∉ D → w'.heap[j]? = w.heap[j]?) : Cells D w' v n xs := by
  obtain ⟨a, cap, hv, hc, hx⟩ := h
  refine ⟨a, cap, hv, hc, fun hp => ?_⟩
  obtain ⟨b, off, ha, hd, hcell⟩ := hx hp
  refine ⟨b, off, ha, hd, fun j hj => ?_⟩
  have h1 := hcell j hj
  rw [← h1]
  exact World.cell?_of_block (hb b (World.block_lt_of_cell? _ _ h1) hd)
theorem Cells.below {D : List Nat} {w w' : World} {v : Value} {n : Nat} {xs : List Value} (h : Cells D w v n xs) (hb : Below w.heap.size w w') : Cells D w' v n xs := h.kept fun j hj _ => hb.block j hj
theorem Cells.sub {D E : List Nat} {w : World} {v : Value} {n : Nat} {xs : List Value} (h : Cells D w v n xs) (hs : ∀ j, j ∈ E → j ∈ D) : Cells E w v n xs := by
  obtain ⟨a, cap, hv, hc, hx⟩ := h
  refine ⟨a, cap, hv, hc, fun hp => ?_⟩
  obtain ⟨b, off, ha, hd, hcell⟩ := hx hp
  exact ⟨b, off, ha, fun hm => hd (hs b hm), hcell⟩
theorem Cells.nil (D : List Nat) (w : World) : Cells D w (.slice none 0 0) 0 [] := ⟨none, 0, rfl, Nat.le_refl _, fun h => by simp at h⟩

/-- an entry -/
structure En where
  term : Nat
  kind : Int
  data : Bytes
/-- a message -/
structure Ms where
  kind : Int
  src : Int
  dest : Int
  term : Nat
  index : Nat
  logTerm : Nat
  commit : Nat
  ok : Bool
  entries : List En
  conf : List Int
  offset : Int
  size : Int
  data : Bytes
def Ms.zero : Ms := ⟨0, 0, 0, 0, 0, 0, 0, false, [], [], 0, 0, []⟩
/-- a message's cells -/
def Ms.cells (x : Ms) (ve vc : Value) : Array Value := #[.int .i64 x.kind, .int .i64 x.src, .int .i64 x.dest, .int .u64 x.term, .int .u64 x.index, .int .u64 x.logTerm, .int .u64 x.commit, .bool x.ok, ve, vc, .int .i64 x.offset, .int .i64 x.size, .string (str x.data)]
def enVals (l : List En) : List Value := l.flatMap fun e => [.int .u64 e.term, .int .i64 e.kind, .string (str e.data)]
def intVals (l : List Int) : List Value := l.map fun n => .int .i64 n
theorem enVals_len (l : List En) : (enVals l).length = 3 * l.length := by
  induction l with
  | nil => rfl
  | cons a l ih => simp only [enVals, List.flatMap_cons, List.length_append, List.length_cons, List.length_nil] at *; omega
theorem intVals_len (l : List Int) : (intVals l).length = l.length := by simp [intVals]
theorem rgVals_at : ∀ (l : List (Nat × Nat)) (k : Nat) (h : k < l.length), (rgVals l)[k * 2]? = some (.int .u64 l[k].1) ∧ (rgVals l)[k * 2 + 1]? = some (.int .u64 l[k].2)
  | a :: l, 0, _ => ⟨rfl, rfl⟩
  | a :: l, k + 1, h => by
    have := rgVals_at l k (by simpa using h)
    rw [show (k + 1) * 2 = k * 2 + 1 + 1 by omega]
    exact this
theorem enVals_at : ∀ (l : List En) (k : Nat) (h : k < l.length), (enVals l)[k * 3]? = some (.int .u64 l[k].term) ∧ (enVals l)[k * 3 + 1]? = some (.int .i64 l[k].kind) ∧ (enVals l)[k * 3 + 2]? = some (.string (str l[k].data))
  | a :: l, 0, _ => ⟨rfl, rfl, rfl⟩
  | a :: l, k + 1, h => by
    have := enVals_at l k (by simpa using h)
    rw [show (k + 1) * 3 = k * 3 + 1 + 1 + 1 by omega]
    exact this
theorem strVals_at (l : List Bytes) (k : Nat) (h : k < l.length) : (strVals l)[k]? = some (.string (str l[k])) := by simp [strVals, h]
theorem intVals_at (l : List Int) (k : Nat) (h : k < l.length) : (intVals l)[k]? = some (.int .i64 l[k]) := by simp [intVals, h]
theorem Cells.at {D : List Nat} {w : World} {a : Option Addr} {n cap m : Nat} {xs : List Value} (h : Cells D w (.slice a m cap) n xs) : m = n ∧ n ≤ cap ∧ (0 < xs.length → ∃ b off, a = some ⟨b, off, none⟩ ∧ ∀ (w' : World), Below w.heap.size w w' → ∀ j v, xs[j]? = some v → w'.cell? ⟨b, off + j, none⟩ = some v) := by
  obtain ⟨a', cap', e, hc, hx⟩ := h
  cases e
  refine ⟨rfl, hc, fun hp => ?_⟩
  obtain ⟨b, off, ha, _, hcell⟩ := hx hp
  refine ⟨b, off, ha, fun w' hb j v hv => ?_⟩
  obtain ⟨hj, e⟩ := List.getElem?_eq_some_iff.1 hv
  have h1 := hcell j hj
  rw [e] at h1
  exact (hb.cell (p := ⟨b, off + j, none⟩) (World.block_lt_of_cell? _ _ h1)).trans h1
theorem Cells.form {D : List Nat} {w : World} {v : Value} {n : Nat} {xs : List Value} (h : Cells D w v n xs) : ∃ a cap, v = .slice a n cap := by
  obtain ⟨a, cap, e, _⟩ := h
  exact ⟨a, cap, e⟩

/-- one step behind the other -/
def many {σ α : Type} (one : σ → α × σ) : Nat → σ → List α × σ
  | 0, st => ([], st)
  | n + 1, st => ((many one n st).1 ++ [(one (many one n st).2).1], (one (many one n st).2).2)
theorem many_len {σ α : Type} (one : σ → α × σ) : ∀ n st, (many one n st).1.length = n
  | 0, _ => rfl
  | n + 1, st => by simp [many, many_len one n st]
def rdRange (s : Bytes) (st : Nat × Nat) : (Nat × Nat) × (Nat × Nat) := (((pNum s st).1, (pNum s (pNum s st).2).1), (pNum s (pNum s st).2).2)

/-- what a call may turn that writes blocks b and k alone -/
def Kept2 (b k : Nat) (w w' : World) : Prop :=
  w'.os = w.os ∧ w'.tape = w.tape ∧ w'.output = w.output ∧ w.heap.size ≤ w'.heap.size ∧ ∀ j, j < w.heap.size → j ≠ b → j ≠ k → w'.heap[j]? = w.heap[j]?
theorem Kept2.refl (b k : Nat) (w : World) : Kept2 b k w w := ⟨rfl, rfl, rfl, Nat.le_refl _, fun _ _ _ _ => rfl⟩
theorem Kept2.trans {b k : Nat} {w w1 w2 : World} (h : Kept2 b k w w1) (g : Kept2 b k w1 w2) : Kept2 b k w w2 :=
  ⟨g.1.trans h.1, g.2.1.trans h.2.1, g.2.2.1.trans h.2.2.1, Nat.le_trans h.2.2.2.1 g.2.2.2.1, fun j hj h1 h2 => (g.2.2.2.2 j (Nat.lt_of_lt_of_le hj h.2.2.2.1) h1 h2).trans (h.2.2.2.2 j hj h1 h2)⟩
theorem Kept2.only {b k : Nat} {w w' : World} (h : Only b w w') : Kept2 b k w w' := ⟨h.os, h.tape, h.output, h.size, fun j hj h1 _ => h.block j hj (fun e => h1 (by cases e; rfl))⟩
theorem Kept2.below {b k : Nat} {w w' : World} (h : Below w.heap.size w w') : Kept2 b k w w' := ⟨h.os, h.tape, h.output, h.size, fun j hj _ _ => h.block j hj⟩
theorem Kept2.set {b k : Nat} {w w' : World} (h : Kept2 b k w w') (o : Nat) (v : Value) : Kept2 b k w (w'.setCell ⟨k, o, none⟩ v) :=
  h.trans ⟨rfl, rfl, rfl, by simp [World.setCell], fun j _ _ hk => Below.heap_setCell _ _ _ _ hk⟩
theorem Kept2.row {b k : Nat} {w w' : World} (h : Kept2 b k w w') (cs : Array Value) : Kept2 b k w (w'.setRow k cs) :=
  h.trans ⟨rfl, rfl, rfl, by simp [World.setRow], fun j _ _ hk => by simp [World.setRow, Array.getElem?_modify, Ne.symm hk]⟩
theorem Kept2.drew {b k : Nat} {w w' : World} (h : Kept2 b k w w') : Kept2 b k w w'.drew := h
theorem Cells.kept2 {b k : Nat} {w w' : World} {v : Value} {n : Nat} {xs : List Value} (h : Cells [b, k] w v n xs) (hb : Kept2 b k w w') : Cells [b, k] w' v n xs :=
  h.kept fun j hj hd => hb.2.2.2.2 j hj (fun e => hd (by simp [e])) (fun e => hd (by simp [e]))
/-- a store into a block whose cells are known -/
theorem heap_set {w : World} {k : Nat} {cs : Array Value} {t : TypeId} (h : w.heap[k]? = some (.cells cs t)) (o : Nat) (v : Value) : (w.setCell ⟨k, o, none⟩ v).heap[k]? = some (.cells (cs.setIfInBounds o v) t) := by
  simp [World.setCell, Array.getElem?_modify, h]
theorem cell_in {w : World} {k : Nat} {cs : Array Value} {t : TypeId} (h : w.heap[k]? = some (.cells cs t)) (o : Nat) (v : Value) (hv : cs[o]? = some v) : w.cell? ⟨k, o, none⟩ = some v := by
  simp [World.cell?, h, hv]
theorem free_in {w : World} {k : Nat} {cs : Array Value} {t : TypeId} (h : w.heap[k]? = some (.cells cs t)) (o : Nat) : w.frozen? ⟨k, o, none⟩ = false := by
  simp [World.frozen?, h]

theorem rsNumE {s : Bytes} {st st' : Nat × Nat} {n b : Nat} {w : World} (E : pNum s st = (n, st')) (h : RS w b s st) (hs : s.length ≤ 1152921504606846976) :
    Calls Try.prog 76 #[.pointer (some ⟨b, 0, none⟩)] w fun x w' => x = .returned (.int .u64 (n : Int)) ∧ RS w' b s st' ∧ Only b w w' := by
  have := rsNum h hs
  rw [E] at this
  exact this
theorem rsCountE {m : Nat} (hm : m ≤ maxLen) {s : Bytes} {st st' : Nat × Nat} {n b : Nat} {w : World} (E : pCount m s st = (n, st')) (h : RS w b s st) (hs : s.length ≤ 1152921504606846976) :
    Calls Try.prog 59 #[.pointer (some ⟨b, 0, none⟩), .int .i64 (m : Int)] w fun x w' => x = .returned (.int .i64 (n : Int)) ∧ RS w' b s st' ∧ Only b w w' := by
  have := rsCount m hm h hs
  rw [E] at this
  exact this
theorem rsTextE {m : Nat} (hm : m ≤ maxLen) {s t : Bytes} {st st' : Nat × Nat} {b : Nat} {w : World} (E : pText m s st = (t, st')) (h : RS w b s st) (hs : s.length ≤ 1152921504606846976) :
    Calls Try.prog 77 #[.pointer (some ⟨b, 0, none⟩), .int .i64 (m : Int)] w fun x w' => x = .returned (.string (str t)) ∧ RS w' b s st' ∧ Only b w w' := by
  have := rsText m hm h hs
  rw [E] at this
  exact this
end Go.Proofs.Ytmehcogaopackaa
