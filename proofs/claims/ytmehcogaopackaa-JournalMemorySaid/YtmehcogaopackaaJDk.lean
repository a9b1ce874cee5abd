/-
  A disk as it lies in memory: its cells, its maps, its pending calls; what stays as it is.
-/
import Derived.Test.YtmehcogaopackaaJMap
import Derived.Test.YtmehcogaopackaaWireP
import Derived.Laws.AppendOwn
import Derived.Below
namespace Go.Proofs.Ytmehcogaopackaa
open Go.RowKit Go.Maps
set_option linter.unusedVariables false
/-- what has turned from W to W': the blocks F, and new ones -/
def Turn (F : List Nat) (W W' : World) : Prop := W'.os = W.os ∧ W'.tape = W.tape ∧ W'.output = W.output ∧ W.heap.size ≤ W'.heap.size ∧ ∀ b, b < W.heap.size → b ∉ F → W'.heap[b]? = W.heap[b]?
theorem Turn.refl (F : List Nat) (W : World) : Turn F W W := ⟨rfl, rfl, rfl, Nat.le_refl _, fun _ _ _ => rfl⟩
theorem Turn.below {F : List Nat} {W W' : World} (h : Below W.heap.size W W') : Turn F W W' := ⟨h.os, h.tape, h.output, h.size, fun b hb _ => h.block b hb⟩
theorem Turn.size {F : List Nat} {W W' : World} (h : Turn F W W') : W.heap.size ≤ W'.heap.size := h.2.2.2.1
theorem Turn.block {F : List Nat} {W W' : World} (h : Turn F W W') {b : Nat} (hb : b < W.heap.size) (hF : b ∉ F) : W'.heap[b]? = W.heap[b]? := h.2.2.2.2 b hb hF
theorem Turn.trans {F G : List Nat} {W W1 W2 : World} (h : Turn F W W1) (g : Turn G W1 W2) (hG : ∀ b ∈ G, b ∈ F ∨ W.heap.size ≤ b) : Turn F W W2 :=
  ⟨g.1.trans h.1, g.2.1.trans h.2.1, g.2.2.1.trans h.2.2.1, Nat.le_trans h.size g.size, fun b hb hF => (g.block (Nat.lt_of_lt_of_le hb h.size) (fun hm => by rcases hG b hm with h1 | h1; exact hF h1; omega)).trans (h.block hb hF)⟩
theorem Turn.mono {F G : List Nat} {W W' : World} (h : Turn F W W') (hG : ∀ b ∈ F, b ∈ G) : Turn G W W' := ⟨h.1, h.2.1, h.2.2.1, h.size, fun b hb hn => h.block hb (fun hm => hn (hG b hm))⟩
theorem Turn.toBelow {F : List Nat} {W W' : World} (h : Turn F W W') {B : Nat} (hB : B ≤ W.heap.size) (hF : ∀ b ∈ F, B ≤ b) : Below B W W' :=
  ⟨h.1, h.2.1, h.2.2.1, h.size, fun b hb => h.block (by omega) (fun hm => by have := hF b hm; omega)⟩
theorem Turn.grown {F : List Nat} {W W' : World} {b : Nat} (h : W.grownBy W' (some b)) (hb : b ∈ F) : Turn F W W' := ⟨h.os, h.tape, h.output, h.size, fun k hk hn => h.block k hk (fun e => hn (by cases e; exact hb))⟩
theorem Turn.grow {F : List Nat} {W W' : World} {row : Option Nat} (h : W.grownBy W' row) (hr : ∀ r, row = some r → r ∈ F) : Turn F W W' := ⟨h.os, h.tape, h.output, h.size, fun k hk hn => h.block k hk (fun e => hn (hr k e.symm))⟩
/-- the block of a slice, if it has one -/
def ownL (v : Value) : List Nat := match v.ownBlock with | some r => [r] | none => []
theorem mem_ownL {v : Value} {r : Nat} : r ∈ ownL v ↔ v.ownBlock = some r := by
  unfold ownL
  cases v.ownBlock <;> simp [eq_comm]
theorem Turn.set {F : List Nat} (W : World) (b o : Nat) (v : Value) (hb : b ∈ F) : Turn F W (W.setCell ⟨b, o, none⟩ v) :=
  ⟨rfl, rfl, rfl, by simp [World.setCell], fun k _ hn => Below.heap_setCell _ _ _ _ (fun e => hn (by rw [e]; exact hb))⟩
theorem Turn.alloc {F : List Nat} (W : World) (o : Obj) : Turn F W (W.alloc o) := .below ((Below.refl _ _).alloc (Nat.le_refl _) _)
theorem Turn.drew {F : List Nat} {W W' : World} (h : Turn F W W') : Turn F W W'.drew := h
theorem ownsRow_of_block {W W' : World} {B : Nat} {e : TypeId} {s : Nat} {v : Value} {n : Nat} {xs : List Value} (h : W.ownsRow B e s v n xs) (hb : ∀ r, v.ownBlock = some r → W'.heap[r]? = W.heap[r]?) : W'.ownsRow B e s v n xs := by
  refine ⟨h.1, ?_⟩
  rcases h.2 with hn | ⟨g, cap, cur, rfl, h1, h2, rest⟩
  · exact .inl hn
  · exact .inr ⟨g, cap, cur, rfl, h1, (hb g rfl).trans h2, rest⟩
theorem own_ne {W : World} {B : Nat} {e : TypeId} {sz : Nat} {v : Value} {n : Nat} {xs : List Value} (h : W.ownsRow B e sz v n xs) {p : Nat} {o : Obj} (hp : W.heap[p]? = some o) (ho : ∀ cur, o ≠ .cells cur e (0, 0)) : some p ≠ v.ownBlock := by
  intro hv
  rcases h.2 with ⟨rfl, _⟩ | ⟨g, cap', cur, rfl, _, hg, _⟩
  · cases hv
  · simp only [Value.ownBlock, Option.some.injEq] at hv
    subst hv
    rw [hp] at hg
    exact ho cur (Option.some.inj hg)
theorem MapAt.ne {W : World} {b p : Nat} {o : Option Bytes} (h : MapAt W b o) {cs : Array Value} {t : TypeId} (hp : W.heap[p]? = some (.cells cs t)) : p ≠ b := by
  rintro rfl
  obtain ⟨es, cl, hm⟩ := h.isMap
  rw [hp] at hm
  cases hm
/-- the pending call c lies in two values: how many steps it has; the function, with its two variables -/
def PdAt (F : List Nat) (W : World) (c : Pd) (v1 v2 : Value) : Prop :=
  v1 = .int .i64 (c.steps : Nat) ∧ ∃ qn qs : Nat, W.heap[qn]? = some (.cells #[.string { data := #[108, 111, 103] }] 9) ∧ W.heap[qs]? = some (.cells #[.string (str c.s)] 9) ∧ qn ∈ F ∧ qs ∈ F ∧
    v2 = if c.put then .func (.func 49) #[] #[.pointer (some ⟨qs, 0, none⟩), .pointer (some ⟨qn, 0, none⟩)] else .func (.func 61) #[] #[.pointer (some ⟨qn, 0, none⟩), .pointer (some ⟨qs, 0, none⟩)]
def PdsAt (F : List Nat) (W : World) : List Pd → List Value → Prop
  | [], xs => xs = []
  | c :: cs, v1 :: v2 :: xs => PdAt F W c v1 v2 ∧ PdsAt F W cs xs
  | _ :: _, _ => False
theorem PdAt.turn {F G : List Nat} {W W' : World} {c : Pd} {v1 v2 : Value} (h : PdAt F W c v1 v2) (hF : ∀ b ∈ F, b ∈ G) (hs : ∀ b (cs : Array Value), b ∈ F → W.heap[b]? = some (.cells cs 9) → W'.heap[b]? = W.heap[b]?) : PdAt G W' c v1 v2 := by
  obtain ⟨h1, qn, qs, h2, h3, h4, h5, h6⟩ := h
  exact ⟨h1, qn, qs, (hs qn _ h4 h2).trans h2, (hs qs _ h5 h3).trans h3, hF _ h4, hF _ h5, h6⟩
theorem PdsAt.turn {F G : List Nat} {W W' : World} (hF : ∀ b ∈ F, b ∈ G) (hs : ∀ b (cs : Array Value), b ∈ F → W.heap[b]? = some (.cells cs 9) → W'.heap[b]? = W.heap[b]?) : ∀ (cs : List Pd) (xs : List Value), PdsAt F W cs xs → PdsAt G W' cs xs
  | [], _, h => h
  | c :: cs, v1 :: v2 :: xs, h => ⟨h.1.turn hF hs, PdsAt.turn hF hs cs xs h.2⟩
theorem PdsAt.snoc {F : List Nat} {W : World} {c : Pd} {v1 v2 : Value} (hc : PdAt F W c v1 v2) : ∀ (cs : List Pd) (xs : List Value), PdsAt F W cs xs → PdsAt F W (cs ++ [c]) (xs ++ [v1, v2])
  | [], _, h => by cases h; exact ⟨hc, rfl⟩
  | d :: cs, w1 :: w2 :: xs, h => ⟨h.1, PdsAt.snoc hc cs xs h.2⟩
def dkCells (d : Ds) (bs bl : Nat) (vp : Value) : Array Value := #[.int .i64 (d.cap : Nat), .map (some bs), .map (some bl), vp, .bool d.fused, .int .i64 d.left]
/-- the disk d lies at block p; what it owns is among the blocks F -/
def DkAt (W : World) (p : Nat) (F : List Nat) (d : Ds) : Prop :=
  ∃ (bs bl : Nat) (vp : Value) (xs : List Value), W.heap[p]? = some (.cells (dkCells d bs bl vp) 86) ∧ MapAt W bs d.seen ∧ MapAt W bl d.lasts ∧ W.ownsRow 0 97 2 vp d.pend.length xs ∧ PdsAt F W d.pend xs ∧
    bs ≠ bl ∧ p ∈ F ∧ bs ∈ F ∧ bl ∈ F ∧ (∀ r, vp.ownBlock = some r → r ∈ F) ∧ (∀ b ∈ F, b < W.heap.size)
theorem DkAt.turn {W W' : World} {p : Nat} {F G : List Nat} {d : Ds} (h : DkAt W p F d) (t : Turn G W W') (hG : ∀ b ∈ G, b ∉ F) : DkAt W' p F d := by
  obtain ⟨bs, bl, vp, xs, h1, h2, h3, h4, h5, h6, h7, h8, h9, h10, h11⟩ := h
  have hk : ∀ b ∈ F, W'.heap[b]? = W.heap[b]? := fun b hb => t.block (h11 b hb) (fun hm => hG b hm hb)
  exact ⟨bs, bl, vp, xs, (hk p h7).trans h1, h2.of_block (hk bs h8), h3.of_block (hk bl h9), ownsRow_of_block h4 (fun r hr => hk r (h10 r hr)), PdsAt.turn (fun _ h => h) (fun b cs hb _ => hk b hb) _ _ h5,
    h6, h7, h8, h9, h10, fun b hb => Nat.lt_of_lt_of_le (h11 b hb) t.size⟩
theorem DkAt.below {W W' : World} {p : Nat} {F : List Nat} {d : Ds} (h : DkAt W p F d) (hb : Below W.heap.size W W') : DkAt W' p F d := h.turn (.below (F := []) hb) (by simp)
theorem DkAt.lt {W : World} {p : Nat} {F : List Nat} {d : Ds} (h : DkAt W p F d) : ∀ b ∈ F, b < W.heap.size := by
  obtain ⟨bs, bl, vp, xs, h1, h2, h3, h4, h5, h6, h7, h8, h9, h10, h11⟩ := h
  exact h11
theorem DkAt.mem {W : World} {p : Nat} {F : List Nat} {d : Ds} (h : DkAt W p F d) : p ∈ F := by
  obtain ⟨bs, bl, vp, xs, h1, h2, h3, h4, h5, h6, h7, h8, h9, h10, h11⟩ := h
  exact h7
/-- a store into the disk's own cells -/
theorem DkAt.mk_set {W : World} {p : Nat} {F : List Nat} {d' : Ds} {o : Nat} {v : Value} {cs : Array Value} {bs bl : Nat} {vp : Value} {xs : List Value} (h1 : W.heap[p]? = some (.cells cs 86)) (hc : cs.setIfInBounds o v = dkCells d' bs bl vp)
    (h2 : MapAt W bs d'.seen) (h3 : MapAt W bl d'.lasts) (h4 : W.ownsRow 0 97 2 vp d'.pend.length xs) (h5 : PdsAt F W d'.pend xs) (h6 : bs ≠ bl) (h7 : p ∈ F) (h8 : bs ∈ F) (h9 : bl ∈ F) (h10 : ∀ r, vp.ownBlock = some r → r ∈ F) (h11 : ∀ b ∈ F, b < W.heap.size) :
    DkAt (W.setCell ⟨p, o, none⟩ v) p F d' := by
  have hne : ∀ b, b ≠ p → (W.setCell ⟨p, o, none⟩ v).heap[b]? = W.heap[b]? := fun b hb => Below.heap_setCell _ _ _ _ hb
  have hm : ∀ {b o}, MapAt W b o → b ≠ p := fun hmp e => by subst e; obtain ⟨es, cl, hm⟩ := hmp.isMap; rw [h1] at hm; cases hm
  refine ⟨bs, bl, vp, xs, by rw [← hc]; exact heap_set h1 o v, h2.of_block (hne _ (hm h2)), h3.of_block (hne _ (hm h3)), ownsRow_of_block h4 (fun r hr => hne r ?_), PdsAt.turn (fun _ h => h) (fun b cs hb hc => hne b ?_) _ _ h5,
    h6, h7, h8, h9, h10, fun b hb => by have := h11 b hb; simpa [World.setCell] using this⟩
  · rintro rfl
    rcases h4.2 with ⟨hv, _⟩ | ⟨g, cap', cur, hv, _, hg, _⟩
    · rw [hv] at hr; cases hr
    · rw [hv] at hr; simp only [Value.ownBlock, Option.some.injEq] at hr; subst hr; rw [h1] at hg; cases hg
  · rintro rfl
    rw [h1] at hc; cases hc
/-- behind a call of the disk: it lies there as d', and nothing but it has turned -/
def After (W : World) (p : Nat) (F : List Nat) (d' : Ds) (W' : World) : Prop := ∃ F', DkAt W' p F' d' ∧ (∀ b ∈ F', b ∈ F ∨ W.heap.size ≤ b) ∧ Turn F W W'
theorem After.same {W W' : World} {p : Nat} {F : List Nat} {d : Ds} (h : DkAt W p F d) (hb : Below W.heap.size W W') : After W p F d W' := ⟨F, h.below hb, fun _ h => .inl h, .below hb⟩
theorem After.trans {W W1 W2 : World} {p : Nat} {F F1 : List Nat} {d2 : Ds} (t : Turn F W W1) (hF : ∀ b ∈ F1, b ∈ F ∨ W.heap.size ≤ b) (h : After W1 p F1 d2 W2) : After W p F d2 W2 := by
  obtain ⟨F2, h1, h2, h3⟩ := h
  refine ⟨F2, h1, fun b hb => ?_, t.trans h3 hF⟩
  rcases h2 b hb with h | h
  · exact hF b h
  · exact .inr (Nat.le_trans t.size h)
end Go.Proofs.Ytmehcogaopackaa
