/-
  The walks of pack.Nums and of the reference's Nums. (Several texts in one.)
-/
import Derived.Test.YtmehcogaopackaaGreatChecked
import Derived.Maps.StringElems
import Derived.Maps.OwnSet
import Derived.StringKeys
import Derived.Maps.RangeWalk
import Derived.Laws.AppendOwn
import Derived.Below
import Derived.WalkKit
import Derived.LoopTactic
import Derived.OwnWalk
import Derived.Outline
import Derived.WalkLawsBesides
import Derived.WalkSpells
import Derived.Handy
import Derived.Laws.BytesArg
import Derived.Test.YtmehcogaopackaaGreatGA
import Derived.Test.YtmehcogaopackaaGreatGB
/- PLAIN: a disk that has at most the file 'log', as a model: what each call does. -/
namespace Go.Proofs.YtmehcogaopackaaGreat
open Go.RowKit
/-- a call that is pending: a Put, or an Add -/
structure Pd where
  put : Bool
  s : Bytes
def Pd.steps (c : Pd) : Nat := if c.put then 1 else c.s.length
structure Ds where
  cap : Nat
  seen : Option Bytes
  lasts : Option Bytes
  pend : List Pd
  fused : Bool
  left : Int
def lenO (o : Option Bytes) : Nat := (o.getD []).length
def Ds.off (d : Ds) : Bool := d.fused && decide (d.left ≤ 0)
def Ds.used (d : Ds) : Nat := lenO d.seen
/-- may a call be done that makes so many bytes more: the error -/
def Ds.may (d : Ds) (more : Int) : Nat := if d.off then 8 else if (d.cap : Int) < (d.used : Int) + more then 7 else 0
def Ds.spend (d : Ds) : Ds := { d with left := if d.fused then d.left - 1 else d.left }
def Ds.add (d : Ds) (s : Bytes) : Ds × Nat :=
  if d.may s.length ≠ 0 then (d, d.may s.length) else if s = [] then (d, 0) else
  (Ds.spend { d with seen := some (d.seen.getD [] ++ s), pend := d.pend ++ [⟨false, s⟩] }, 0)
def Ds.puts (d : Ds) (s : Bytes) : Ds × Nat :=
  if d.may ((s.length : Int) - lenO d.seen) ≠ 0 then (d, d.may ((s.length : Int) - lenO d.seen)) else
  (Ds.spend { d with seen := some s, pend := d.pend ++ [⟨true, s⟩] }, 0)
def Ds.sync (d : Ds) : Ds × Nat := if d.may 0 ≠ 0 then (d, d.may 0) else (Ds.spend { d with lasts := d.seen, pend := [] }, 0)
def Ds.read (d : Ds) : Bytes × Nat := if d.off then ([], 8) else match d.seen with | none => ([], 6) | some b => (b, 0)
def Ds.fuse (d : Ds) (n : Int) : Ds := { d with fused := decide (0 ≤ n), left := n }
def Ds.count (d : Ds) : Nat := (d.pend.map Pd.steps).sum
def Ds.new (cap : Nat) : Ds := ⟨cap, none, none, [], false, 0⟩
/-- what a call of the disk and a Sync behind it come to -/
def Ds.sync' (p : Ds × Nat) : Ds × Nat := if p.2 ≠ 0 then p else p.1.sync
/-- a disk whose numbers are as they may be -/
def Ds.ok (d : Ds) : Prop := d.cap ≤ 1048576 ∧ d.used ≤ d.cap ∧ lenO d.lasts ≤ d.cap ∧ -9223372036854775808 ≤ d.left ∧ d.left ≤ 9223372036854775807
end Go.Proofs.YtmehcogaopackaaGreat
/- A map of files that has at most 'log': what it reads as; a look-up, a store, as equations. -/
namespace Go.Proofs.YtmehcogaopackaaGreat
open Go.RowKit Go.Maps Go.WideMaps
set_option linter.unusedVariables false
def logB : Bytes := [108, 111, 103]
/-- what the map reads as -/
def DM (o : Option Bytes) : DataW Unit := match o with | none => .map [] | some b => .map [(.string logB, .lit (.string b))]
theorem law9 : Keyed Tryz.prog 9 := string_keyed Tryz.underlying9
theorem keyLog : keyOf Tryz.prog 9 (.string { data := #[108, 111, 103] }) = some (.string logB) := keyOf_string_mk Tryz.underlying9 (by decide)
theorem DM_put (o : Option Bytes) (b : Bytes) : (DM o).put (.string logB) (.lit (.string b)) = DM (some b) := by
  cases o <;> simp [DM, DataW.put, DataW.insert, Lit.sameKey]
theorem DM_at (o : Option Bytes) : (DM o).atKey (.string logB) (.lit (.string [])) = .lit (.string (o.getD [])) := by
  cases o <;> simp [DM, DataW.atKey, Lit.sameKey]
theorem DM_has (o : Option Bytes) : Maps.has (DM o) (.string logB) = o.isSome := by
  cases o <;> simp [DM, Maps.has, Lit.sameKey]
theorem DM_size (o : Option Bytes) : Maps.size (DM o) ≤ 1 := by cases o <;> simp [DM, Maps.size]
theorem DM_key (o : Option Bytes) (k : Lit) (h : Maps.has (DM o) k = true) : k = .string logB := by
  cases o with
  | none => simp [DM, Maps.has] at h
  | some b =>
    cases k <;> simp [DM, Maps.has, Lit.sameKey] at h
    rw [h]
/-- block b of W is a map of files that has at most 'log', whose bytes are o -/
def MapAt (W : World) (b : Nat) (o : Option Bytes) : Prop := W.ownsMap Tryz.prog 9 (plainElem Tryz.prog 9) b 1 (DM o)
theorem ownsMap_few {H : Type} {P : Program} {k : TypeId} {R : Value → Option (DataW H × List MemPlace)} {w : World} {b n : Nat} {D : DataW H} (h : w.ownsMap P k R b n D) {m : Nat} (hm : Maps.size D ≤ m) : w.ownsMap P k R b m D := by
  obtain ⟨es, clock, h1, h2, h3, rfl⟩ := h
  refine ⟨es, clock, h1, h2, ?_, rfl⟩
  have : Maps.size (DataW.map ((es.toList.map (Go.WideElems.rg P k R)).foldr DataW.insert [])) = es.size := by
    show ((es.toList.map (Go.WideElems.rg P k R)).foldr DataW.insert []).length = es.size
    rw [length_sorted]
    simp
  omega
theorem zero9 (w : World) : (zeroValue 9).run Tryz.prog w = .ok (.string { data := #[] }) w := by kernel_rfl
theorem plain9 (b : Bytes) (h : b.length ≤ maxLen) : plainElem (H := Unit) Tryz.prog 9 (.string (str b)) = some (.lit (.string b), []) := plainElem_string Tryz.underlying9 (by rw [str_size]; exact h)
theorem MapAt.look {W : World} {b : Nat} {o : Option Bytes} (h : MapAt W b o) : (Instr.lookup 73 (.map (some b)) (.string { data := #[108, 111, 103] }) false).run Tryz.prog W = .ok (.string (str (o.getD []))) W := by
  obtain ⟨v, ps, hrun, hv⟩ := World.ownsMap.lookup h law9 Tryz.underlying73 (zero9 W) (plain9 [] (by decide)) keyLog
  rw [DM_at] at hv
  obtain ⟨s, rfl, hz, _⟩ := plainElem_string_inv Tryz.underlying9 hv
  simp only [Prod.mk.injEq, DataW.lit.injEq, Lit.string.injEq] at hz
  rw [hrun]
  have : s = str (o.getD []) := by rw [hz.1]; rfl
  rw [this]
theorem MapAt.look_ok {W : World} {b : Nat} {o : Option Bytes} (h : MapAt W b o) : (Instr.lookup 73 (.map (some b)) (.string { data := #[108, 111, 103] }) true).run Tryz.prog W = .ok (.tuple #[.string (str (o.getD [])), .bool o.isSome]) W := by
  obtain ⟨v, ps, hrun, hv⟩ := World.ownsMap.look_ok h law9 Tryz.underlying73 (zero9 W) (plain9 [] (by decide)) keyLog
  rw [DM_at] at hv
  rw [DM_has] at hrun
  obtain ⟨s, rfl, hz, _⟩ := plainElem_string_inv Tryz.underlying9 hv
  simp only [Prod.mk.injEq, DataW.lit.injEq, Lit.string.injEq] at hz
  rw [hrun]
  have : s = str (o.getD []) := by rw [hz.1]; rfl
  rw [this]
theorem MapAt.store {W : World} {b : Nat} {o : Option Bytes} (h : MapAt W b o) (s : Bytes) (hs : s.length ≤ maxLen) : ∃ w', (Instr.mapUpdate 73 (.map (some b)) (.string { data := #[108, 111, 103] }) (.string (str s))).run Tryz.prog W = .ok () w' ∧ MapAt w' b (some s) ∧ W.grownBy w' (some b) := by
  obtain ⟨w', hrun, hown, hg⟩ := World.ownsMap.update h law9 Tryz.underlying73 (by unfold maxLen; omega) keyLog (plain9 s hs)
  rw [DM_put] at hown
  exact ⟨w', hrun, ownsMap_few hown (DM_size _), hg⟩
theorem MapAt.kept {W W' : World} {b : Nat} {o : Option Bytes} (h : MapAt W b o) {row : Option Nat} (hg : W.grownBy W' row) (hne : some b ≠ row) : MapAt W' b o := World.ownsMap.kept h hg hne
theorem MapAt.lt {W : World} {b : Nat} {o : Option Bytes} (h : MapAt W b o) : b < W.heap.size := World.ownsMap.lt h
theorem MapAt.of_block {W W' : World} {b : Nat} {o : Option Bytes} (h : MapAt W b o) (hb : W'.heap[b]? = W.heap[b]?) : MapAt W' b o := by
  obtain ⟨es, clock, h1, h2⟩ := h
  exact ⟨es, clock, hb.trans h1, h2⟩
theorem MapAt.made (W : World) : MapAt (W.alloc (.map #[] 0)) W.heap.size none := (World.ownsMap_made W _ _ _).mono (Nat.zero_le _)
theorem MapAt.isMap {W : World} {b : Nat} {o : Option Bytes} (h : MapAt W b o) : ∃ es clock, W.heap[b]? = some (.map es clock) := by
  obtain ⟨es, clock, h1, _⟩ := h
  exact ⟨es, clock, h1⟩
theorem MapAt.len {W : World} {b : Nat} {o : Option Bytes} (h : MapAt W b o) : lenO o ≤ maxLen := by
  obtain ⟨v, ps, hrun, hv⟩ := World.ownsMap.lookup h law9 Tryz.underlying73 (zero9 W) (plain9 [] (by decide)) keyLog
  rw [DM_at] at hv
  obtain ⟨s, rfl, hz, hl⟩ := plainElem_string_inv Tryz.underlying9 hv
  simp only [Prod.mk.injEq, DataW.lit.injEq, Lit.string.injEq] at hz
  unfold lenO
  rw [hz.1, len_of]
  exact hl
theorem keyOf_str_inv {P : Program} {k : TypeId} (hk : P.underlying k = some .string) {key : Value} {kl : Lit} (h : keyOf P k key = some kl) : ∃ s : ByteArray, key = .string s ∧ kl = .string s.data.toList := by
  rw [keyOf_string hk] at h
  cases key <;> simp [mapKey, hk] at h
  exact ⟨_, rfl, h.2.symm⟩
/-- the step of a range over a map of files that has at most 'log' -/
theorem wpList_next_log (w : World) {ops : Array Oper} {rest : List Oper} {o : Oper} {a : Act} {Q : Exit → Act → World → Prop} (hg : o.guard = none) (it : Operand) (hop : o.op = Op.next it false) (b r : Nat) (f : Option Bytes) (left : Lit → Bool) (cnt : Nat)
    (hit : a.eval it = .pointer (some ⟨r, 0, none⟩)) (h : w.ranges Tryz.prog 9 (plainElem Tryz.prog 9) b r 1 (DM f) left cnt)
    (hDone : (∀ kl, left kl = false) → wpList Tryz.prog ops Q rest (a.put o.dst (.tuple #[.bool false])) w)
    (hMore : ∀ (c : Bytes) (w' : World) (cnt' : Nat), f = some c → left (.string logB) = true → w'.ranges Tryz.prog 9 (plainElem Tryz.prog 9) b r 1 (DM f) (fun z => left z && !z.sameKey (.string logB)) cnt' → cnt' < cnt → w.grownBy w' (some r) → w'.heap.size = w.heap.size →
      (Instr.entry (.pointer (some ⟨r, 0, none⟩))).run Tryz.prog w' = .ok (.tuple #[.string { data := #[108, 111, 103] }, .string (str c)]) w' → wpList Tryz.prog ops Q rest (a.put o.dst (.tuple #[.bool true, .string { data := #[108, 111, 103] }, .string (str c)])) w') :
    wpList Tryz.prog ops Q (o :: rest) a w := by
  refine wpList_next_ranges w hg it hop 9 law9 (plainElem Tryz.prog 9) Value.string Value.string (fun key kl hkey => by obtain ⟨s, rfl, _⟩ := keyOf_str_inv Tryz.underlying9 hkey; exact ⟨s, rfl⟩) (fun v y hv => by obtain ⟨c, rfl, _⟩ := plainElem_string_inv Tryz.underlying9 hv; exact ⟨c, rfl⟩)
    b r 1 (DM f) left cnt hit h (fun _ hl => hDone hl) (fun x c kl y w' cnt' hkey hlk hv hat hrg hlt hgr hsz hen => ?_)
  obtain ⟨s, e1, rfl⟩ := keyOf_str_inv Tryz.underlying9 hkey
  cases e1
  obtain ⟨c', e2, rfl, _⟩ := plainElem_string_inv Tryz.underlying9 hv
  cases e2
  have hk := DM_key f _ (has_true_of_atKey hat)
  have hx : x = { data := #[108, 111, 103] } := by
    simp only [Lit.string.injEq] at hk
    have : x = str x.data.toList := by cases x; rfl
    rw [this, hk]
    rfl
  subst hx
  cases f with
  | none =>
    have h1 := hat (.lit (.string []))
    have h2 := hat (.lit (.bool true))
    have h3 : (.lit (.bool true) : DataW Unit) = (.lit (.string [])) := Eq.trans (show _ = _ from h2) (Eq.symm (show _ = _ from h1))
    simp at h3
  | some b0 =>
    have h1 := hat (.lit (.bool true))
    have h3 : (DM (some b0)).atKey (.string logB) (.lit (.bool true)) = .lit (.string b0) := by simp [DM, DataW.atKey, Lit.sameKey]
    have h4 : (.lit (.string b0) : DataW Unit) = .lit (.string c.data.toList) := h3.symm.trans h1
    simp only [DataW.lit.injEq, Lit.string.injEq] at h4
    subst h4
    have : c = str c.data.toList := by cases c; rfl
    rw [this] at hen ⊢
    exact hMore _ w' cnt' rfl hlk hrg hlt hgr hsz hen
end Go.Proofs.YtmehcogaopackaaGreat
/- A disk as it lies in memory: its cells, its maps, its pending calls; what stays as it is. -/
namespace Go.Proofs.YtmehcogaopackaaGreat
open Go.RowKit Go.Maps
set_option linter.unusedVariables false
/-- what has turned from W to W': the blocks F, and new ones -/
def Turn (F : List Nat) (W W' : World) : Prop := W'.os = W.os ∧ W'.tape = W.tape ∧ W'.output = W.output ∧ W.heap.size ≤ W'.heap.size ∧ ∀ b, b < W.heap.size → b ∉ F → W'.heap[b]? = W.heap[b]?
theorem Turn.refl (F : List Nat) (W : World) : Turn F W W := ⟨rfl, rfl, rfl, Nat.le_refl _, fun _ _ _ => rfl⟩
theorem Turn.below {F : List Nat} {W W' : World} (h : Below W.heap.size W W') : Turn F W W' := ⟨h.os, h.tape, h.output, h.size, fun b hb _ => h.block b hb⟩
theorem Turn.size {F : List Nat} {W W' : World} (h : Turn F W W') : W.heap.size ≤ W'.heap.size := h.2.2.2.1
theorem Turn.block {F : List Nat} {W W' : World} (h : Turn F W W') {b : Nat} (hb : b < W.heap.size) (hF : b ∉ F) : W'.heap[b]? = W.heap[b]? := h.2.2.2.2 b hb hF
theorem Turn.trans {F G : List Nat} {W W1 W2 : World} (h : Turn F W W1) (g : Turn G W1 W2) (hG : ∀ b ∈ G, b ∈ F ∨ W.heap.size ≤ b) : Turn F W W2 :=
  ⟨g.1.trans h.1, g.2.1.trans h.2.1, g.2.2.1.trans h.2.2.1, Nat.le_trans h.size g.size, fun b hb hF => (g.block (Nat.lt_of_lt_of_le hb h.size) (fun hm => by rcases hG b hm with h1 | h1; exact hF h1; omega)).trans (h.block hb hF)⟩
theorem Turn.mono {F G : List Nat} {W W' : World} (h : Turn F W W') (hG : ∀ b ∈ F, b ∈ G) : Turn G W W' := ⟨h.1, h.2.1, h.2.2.1, h.size, fun b hb hn => h.block hb (fun hm => hn (hG b hm))⟩
theorem Turn.toBelow {F : List Nat} {W W' : World} (h : Turn F W W') {B : Nat} (hB : B ≤ W.heap.size) (hF : ∀ b ∈ F, B ≤ b) : Below B W W' :=
  ⟨h.1, h.2.1, h.2.2.1, h.size, fun b hb => h.block (by omega) (fun hm => by have := hF b hm; omega)⟩
theorem Turn.grown {F : List Nat} {W W' : World} {b : Nat} (h : W.grownBy W' (some b)) (hb : b ∈ F) : Turn F W W' := ⟨h.os, h.tape, h.output, h.size, fun k hk hn => h.block k hk (fun e => hn (by cases e; exact hb))⟩
theorem Turn.grow {F : List Nat} {W W' : World} {row : Option Nat} (h : W.grownBy W' row) (hr : ∀ r, row = some r → r ∈ F) : Turn F W W' := ⟨h.os, h.tape, h.output, h.size, fun k hk hn => h.block k hk (fun e => hn (hr k e.symm))⟩
/-- the block of a slice, if it has one -/
def ownL (v : Value) : List Nat := match v.ownBlock with | some r => [r] | none => []
theorem mem_ownL {v : Value} {r : Nat} : r ∈ ownL v ↔ v.ownBlock = some r := by
  unfold ownL
  cases v.ownBlock <;> simp [eq_comm]
theorem Turn.set {F : List Nat} (W : World) (b o : Nat) (v : Value) (hb : b ∈ F) : Turn F W (W.setCell ⟨b, o, none⟩ v) :=
  ⟨rfl, rfl, rfl, by simp [World.setCell], fun k _ hn => Below.heap_setCell _ _ _ _ (fun e => hn (by rw [e]; exact hb))⟩
theorem Turn.alloc {F : List Nat} (W : World) (o : Obj) : Turn F W (W.alloc o) := .below ((Below.refl _ _).alloc (Nat.le_refl _) _)
theorem Turn.drew {F : List Nat} {W W' : World} (h : Turn F W W') : Turn F W W'.drew := h
theorem ownsRow_of_block {W W' : World} {B : Nat} {e : TypeId} {s : Nat} {v : Value} {n : Nat} {xs : List Value} (h : W.ownsRow B e s v n xs) (hb : ∀ r, v.ownBlock = some r → W'.heap[r]? = W.heap[r]?) : W'.ownsRow B e s v n xs := by
  refine ⟨h.1, ?_⟩
  rcases h.2 with hn | ⟨g, cap, cur, rfl, h1, h2, rest⟩
  · exact .inl hn
  · exact .inr ⟨g, cap, cur, rfl, h1, (hb g rfl).trans h2, rest⟩
theorem own_ne {W : World} {B : Nat} {e : TypeId} {sz : Nat} {v : Value} {n : Nat} {xs : List Value} (h : W.ownsRow B e sz v n xs) {p : Nat} {o : Obj} (hp : W.heap[p]? = some o) (ho : ∀ cur, o ≠ .cells cur e (0, 0)) : some p ≠ v.ownBlock := by
  intro hv
  rcases h.2 with ⟨rfl, _⟩ | ⟨g, cap', cur, rfl, _, hg, _⟩
  · cases hv
  · simp only [Value.ownBlock, Option.some.injEq] at hv
    subst hv
    rw [hp] at hg
    exact ho cur (Option.some.inj hg)
theorem MapAt.ne {W : World} {b p : Nat} {o : Option Bytes} (h : MapAt W b o) {cs : Array Value} {t : TypeId} (hp : W.heap[p]? = some (.cells cs t)) : p ≠ b := by
  rintro rfl
  obtain ⟨es, cl, hm⟩ := h.isMap
  rw [hp] at hm
  cases hm
/-- the pending call c lies in two values: how many steps it has; the function, with its two variables -/
def PdAt (F : List Nat) (W : World) (c : Pd) (v1 v2 : Value) : Prop :=
  v1 = .int .i64 (c.steps : Nat) ∧ ∃ qn qs : Nat, W.heap[qn]? = some (.cells #[.string { data := #[108, 111, 103] }] 9) ∧ W.heap[qs]? = some (.cells #[.string (str c.s)] 9) ∧ qn ∈ F ∧ qs ∈ F ∧
    v2 = if c.put then .func (.func 32) #[] #[.pointer (some ⟨qs, 0, none⟩), .pointer (some ⟨qn, 0, none⟩)] else .func (.func 89) #[] #[.pointer (some ⟨qn, 0, none⟩), .pointer (some ⟨qs, 0, none⟩)]
def PdsAt (F : List Nat) (W : World) : List Pd → List Value → Prop
  | [], xs => xs = []
  | c :: cs, v1 :: v2 :: xs => PdAt F W c v1 v2 ∧ PdsAt F W cs xs
  | _ :: _, _ => False
theorem PdAt.turn {F G : List Nat} {W W' : World} {c : Pd} {v1 v2 : Value} (h : PdAt F W c v1 v2) (hF : ∀ b ∈ F, b ∈ G) (hs : ∀ b (cs : Array Value), b ∈ F → W.heap[b]? = some (.cells cs 9) → W'.heap[b]? = W.heap[b]?) : PdAt G W' c v1 v2 := by
  obtain ⟨h1, qn, qs, h2, h3, h4, h5, h6⟩ := h
  exact ⟨h1, qn, qs, (hs qn _ h4 h2).trans h2, (hs qs _ h5 h3).trans h3, hF _ h4, hF _ h5, h6⟩
theorem PdsAt.turn {F G : List Nat} {W W' : World} (hF : ∀ b ∈ F, b ∈ G) (hs : ∀ b (cs : Array Value), b ∈ F → W.heap[b]? = some (.cells cs 9) → W'.heap[b]? = W.heap[b]?) : ∀ (cs : List Pd) (xs : List Value), PdsAt F W cs xs → PdsAt G W' cs xs
  | [], _, h => h
  | c :: cs, v1 :: v2 :: xs, h => ⟨h.1.turn hF hs, PdsAt.turn hF hs cs xs h.2⟩
theorem PdsAt.snoc {F : List Nat} {W : World} {c : Pd} {v1 v2 : Value} (hc : PdAt F W c v1 v2) : ∀ (cs : List Pd) (xs : List Value), PdsAt F W cs xs → PdsAt F W (cs ++ [c]) (xs ++ [v1, v2])
  | [], _, h => by cases h; exact ⟨hc, rfl⟩
  | d :: cs, w1 :: w2 :: xs, h => ⟨h.1, PdsAt.snoc hc cs xs h.2⟩
def dkCells (d : Ds) (bs bl : Nat) (vp : Value) : Array Value := #[.int .i64 (d.cap : Nat), .map (some bs), .map (some bl), vp, .bool d.fused, .int .i64 d.left]
/-- the disk d lies at block p; what it owns is among the blocks F -/
def DkAt (W : World) (p : Nat) (F : List Nat) (d : Ds) : Prop :=
  ∃ (bs bl : Nat) (vp : Value) (xs : List Value), W.heap[p]? = some (.cells (dkCells d bs bl vp) 76) ∧ MapAt W bs d.seen ∧ MapAt W bl d.lasts ∧ W.ownsRow 0 85 2 vp d.pend.length xs ∧ PdsAt F W d.pend xs ∧
    bs ≠ bl ∧ p ∈ F ∧ bs ∈ F ∧ bl ∈ F ∧ (∀ r, vp.ownBlock = some r → r ∈ F) ∧ (∀ b ∈ F, b < W.heap.size)
theorem DkAt.turn {W W' : World} {p : Nat} {F G : List Nat} {d : Ds} (h : DkAt W p F d) (t : Turn G W W') (hG : ∀ b ∈ G, b ∉ F) : DkAt W' p F d := by
  obtain ⟨bs, bl, vp, xs, h1, h2, h3, h4, h5, h6, h7, h8, h9, h10, h11⟩ := h
  have hk : ∀ b ∈ F, W'.heap[b]? = W.heap[b]? := fun b hb => t.block (h11 b hb) (fun hm => hG b hm hb)
  exact ⟨bs, bl, vp, xs, (hk p h7).trans h1, h2.of_block (hk bs h8), h3.of_block (hk bl h9), ownsRow_of_block h4 (fun r hr => hk r (h10 r hr)), PdsAt.turn (fun _ h => h) (fun b cs hb _ => hk b hb) _ _ h5,
    h6, h7, h8, h9, h10, fun b hb => Nat.lt_of_lt_of_le (h11 b hb) t.size⟩
theorem DkAt.below {W W' : World} {p : Nat} {F : List Nat} {d : Ds} (h : DkAt W p F d) (hb : Below W.heap.size W W') : DkAt W' p F d := h.turn (.below (F := []) hb) (by simp)
theorem DkAt.lt {W : World} {p : Nat} {F : List Nat} {d : Ds} (h : DkAt W p F d) : ∀ b ∈ F, b < W.heap.size := by
  obtain ⟨bs, bl, vp, xs, h1, h2, h3, h4, h5, h6, h7, h8, h9, h10, h11⟩ := h
  exact h11
theorem DkAt.mem {W : World} {p : Nat} {F : List Nat} {d : Ds} (h : DkAt W p F d) : p ∈ F := by
  obtain ⟨bs, bl, vp, xs, h1, h2, h3, h4, h5, h6, h7, h8, h9, h10, h11⟩ := h
  exact h7
/-- a store into the disk's own cells -/
theorem DkAt.mk_set {W : World} {p : Nat} {F : List Nat} {d' : Ds} {o : Nat} {v : Value} {cs : Array Value} {bs bl : Nat} {vp : Value} {xs : List Value} (h1 : W.heap[p]? = some (.cells cs 76)) (hc : cs.setIfInBounds o v = dkCells d' bs bl vp)
    (h2 : MapAt W bs d'.seen) (h3 : MapAt W bl d'.lasts) (h4 : W.ownsRow 0 85 2 vp d'.pend.length xs) (h5 : PdsAt F W d'.pend xs) (h6 : bs ≠ bl) (h7 : p ∈ F) (h8 : bs ∈ F) (h9 : bl ∈ F) (h10 : ∀ r, vp.ownBlock = some r → r ∈ F) (h11 : ∀ b ∈ F, b < W.heap.size) :
    DkAt (W.setCell ⟨p, o, none⟩ v) p F d' := by
  have hne : ∀ b, b ≠ p → (W.setCell ⟨p, o, none⟩ v).heap[b]? = W.heap[b]? := fun b hb => Below.heap_setCell _ _ _ _ hb
  have hm : ∀ {b o}, MapAt W b o → b ≠ p := fun hmp e => by subst e; obtain ⟨es, cl, hm⟩ := hmp.isMap; rw [h1] at hm; cases hm
  refine ⟨bs, bl, vp, xs, by rw [← hc]; exact heap_set h1 o v, h2.of_block (hne _ (hm h2)), h3.of_block (hne _ (hm h3)), ownsRow_of_block h4 (fun r hr => hne r ?_), PdsAt.turn (fun _ h => h) (fun b cs hb hc => hne b ?_) _ _ h5,
    h6, h7, h8, h9, h10, fun b hb => by have := h11 b hb; simpa [World.setCell] using this⟩
  · rintro rfl
    rcases h4.2 with ⟨hv, _⟩ | ⟨g, cap', cur, hv, _, hg, _⟩
    · rw [hv] at hr; cases hr
    · rw [hv] at hr; simp only [Value.ownBlock, Option.some.injEq] at hr; subst hr; rw [h1] at hg; cases hg
  · rintro rfl
    rw [h1] at hc; cases hc
/-- behind a call of the disk: it lies there as d', and nothing but it has turned -/
def After (W : World) (p : Nat) (F : List Nat) (d' : Ds) (W' : World) : Prop := ∃ F', DkAt W' p F' d' ∧ (∀ b ∈ F', b ∈ F ∨ W.heap.size ≤ b) ∧ Turn F W W'
theorem After.same {W W' : World} {p : Nat} {F : List Nat} {d : Ds} (h : DkAt W p F d) (hb : Below W.heap.size W W') : After W p F d W' := ⟨F, h.below hb, fun _ h => .inl h, .below hb⟩
theorem After.trans {W W1 W2 : World} {p : Nat} {F F1 : List Nat} {d2 : Ds} (t : Turn F W W1) (hF : ∀ b ∈ F1, b ∈ F ∨ W.heap.size ≤ b) (h : After W1 p F1 d2 W2) : After W p F d2 W2 := by
  obtain ⟨F2, h1, h2, h3⟩ := h
  refine ⟨F2, h1, fun b hb => ?_, t.trans h3 hF⟩
  rcases h2 b hb with h | h
  · exact hF b h
  · exact .inr (Nat.le_trans t.size h)
end Go.Proofs.YtmehcogaopackaaGreat
/- The walks of seal.Sum and of the reference's Sum: both are 'crc' of the bytes, and leave the world alone. -/
namespace Go.Proofs.YtmehcogaopackaaGreat
open Go.RowKit

theorem num_u32 {a b : Int} (h : a = b) : Value.int .u32 a = Value.int .u32 b := by rw [h]
theorem num_i64 {a b : Int} (h : a = b) : Value.int .i64 a = Value.int .i64 b := by rw [h]
theorem ret_u32 {a b : Int} (h : a = b) : Ending.returned (.int .u32 a) = .returned (.int .u32 b) := by rw [h]

theorem crcRun_take (s : ByteArray) (k : Nat) (h : k < s.size) : crcRun (s.data.toList.take (k + 1)) = crcByte (crcRun (s.data.toList.take k)) s[k] := by
  have : s.data.toList.take (k + 1) = s.data.toList.take k ++ [s[k]] := by
    rw [List.take_succ_eq_append_getElem (by simpa using h)]; rfl
  rw [this, crcRun_snoc]
theorem crcRun_all (s : ByteArray) (k : Nat) (h : k ≤ s.size) (h2 : ¬ k < s.size) : crcRun (s.data.toList.take k) = crcRun s.data.toList := by
  rw [List.take_of_length_le (by simp; omega)]

set_option maxHeartbeats 400000 in
theorem sum_any (s : ByteArray) (w : World) (hs : s.size ≤ maxLen) :
    Calls Tryz.prog 112 #[.string s] w fun e w' => e = .returned (.int .u32 (crc s.data.toList : Nat)) ∧ w = w' := by
  unfold maxLen at hs
  go_enter Tryz.func112, Tryz.ntmps112
  go_wp2
  go_loop [3, 4, 5, 8] (fun c _ _ j => ∃ k : Nat, k ≤ s.size ∧ j = .int .i64 k ∧ c = .int .u32 (crcRun (s.data.toList.take k) : Nat)) (fun _ _ _ j => s.size - (intOf j).toNat)
  case atStart => exact ⟨0, Nat.zero_le _, rfl, rfl⟩
  case round =>
    obtain ⟨k, hk, rfl, rfl⟩ := hrel
    have hx0 := crcRun_le (s.data.toList.take k)
    by_cases hlt : k < s.size
    · have HR := hid (crcRun_take s k hlt)
      have hx1 := crcXor_le hx0 s[k]
      have HX := hid (crcXor_prog (crcRun (s.data.toList.take k)) s[k] hx0)
      generalize crcRun (s.data.toList.take k) = x at *
      go_wp2
      go_loop [3, 5, 17] (fun c _ j => ∃ i : Nat, i ≤ 8 ∧ j = .int .i64 i ∧ c = .int .u32 (crcBits i (x ^^^ s[k].toNat) : Nat)) (fun _ _ j => 8 - (intOf j).toNat)
      case atStart => exact ⟨0, by omega, rfl, num_u32 HX.out⟩
      case round =>
        obtain ⟨i, hi, rfl, rfl⟩ := hrel
        have hy := crcBits_le hx1 i
        by_cases hlt' : i < 8
        · have HB := hid (crcBit_prog (crcBits i (x ^^^ s[k].toNat)) hy)
          have HS := hid (show crcBits (i + 1) (x ^^^ s[k].toNat) = crcBit (crcBits i (x ^^^ s[k].toNat)) from rfl)
          generalize crcBits i (x ^^^ s[k].toNat) = y at *
          go_wp2
          go_round
          case rel => exact ⟨i + 1, by omega, by go_num, num_u32 (by rw [HS.out]; exact HB.out)⟩
          case measure => simp [intOf]; omega
        · obtain rfl : i = 8 := by omega
          go_wp2
          go_round
          case rel => exact ⟨k + 1, by omega, by go_num, num_u32 (by rw [HR.out]; rfl)⟩
          case measure => simp [intOf]; omega
    · have HN := hid (crcNot_prog _ hx0)
      have HA := hid (crcRun_all s k hk hlt)
      go_wp2
      go_ret
      exact ⟨ret_u32 (HN.out.trans (by rw [HA.out]; rfl)), rfl⟩

set_option maxHeartbeats 400000 in
theorem refSum_any (s : ByteArray) (w : World) (hs : s.size ≤ maxLen) :
    Calls Tryz.prog 130 #[.string s] w fun e w' => e = .returned (.int .u32 (crc s.data.toList : Nat)) ∧ w = w' := by
  unfold maxLen at hs
  go_enter Tryz.func130, Tryz.ntmps130
  go_wp2
  go_loop [3, 4, 5] (fun c j _ => ∃ k : Nat, k ≤ s.size ∧ j = .int .i64 k ∧ c = .int .u32 (crcRun (s.data.toList.take k) : Nat)) (fun _ j _ => s.size - (intOf j).toNat)
  case atStart => exact ⟨0, Nat.zero_le _, rfl, rfl⟩
  case round =>
    obtain ⟨k, hk, rfl, rfl⟩ := hrel
    have hx0 := crcRun_le (s.data.toList.take k)
    by_cases hlt : k < s.size
    · have HR := hid (crcRun_take s k hlt)
      have hx1 := crcXor_le hx0 s[k]
      have HX := hid (crcXor_prog (crcRun (s.data.toList.take k)) s[k] hx0)
      generalize crcRun (s.data.toList.take k) = x at *
      go_wp2
      go_loop [3, 5] (fun c j => ∃ i : Nat, i ≤ 8 ∧ j = .int .i64 i ∧ c = .int .u32 (crcBits i (x ^^^ s[k].toNat) : Nat)) (fun _ j => 8 - (intOf j).toNat)
      case atStart => exact ⟨0, by omega, rfl, num_u32 HX.out⟩
      case round =>
        obtain ⟨i, hi, rfl, rfl⟩ := hrel
        have hy := crcBits_le hx1 i
        by_cases hlt' : i < 8
        · have HS := hid (show crcBits (i + 1) (x ^^^ s[k].toNat) = crcBit (crcBits i (x ^^^ s[k].toNat)) from rfl)
          by_cases hodd : crcBits i (x ^^^ s[k].toNat) % 2 = 1
          · have HB := hid (crcBit_ref_odd (crcBits i (x ^^^ s[k].toNat)) hy hodd)
            have ho : (((crcBits i (x ^^^ s[k].toNat) : Nat) : Int) % 2 == 1) = true := by rw [beq_iff_eq]; omega
            clear hodd
            generalize crcBits i (x ^^^ s[k].toNat) = y at *
            go_wp2
            go_round
            case rel => exact ⟨i + 1, by omega, by go_num, num_u32 (by rw [HS.out]; exact HB.out)⟩
            case measure => simp [intOf]; omega
          · have HB := hid (crcBit_ref_even (crcBits i (x ^^^ s[k].toNat)) hodd)
            have ho : (((crcBits i (x ^^^ s[k].toNat) : Nat) : Int) % 2 == 1) = false := by rw [beq_eq_false_iff_ne]; omega
            clear hodd
            generalize crcBits i (x ^^^ s[k].toNat) = y at *
            go_wp2
            go_round
            case rel => exact ⟨i + 1, by omega, by go_num, num_u32 (by rw [HS.out]; exact HB.out)⟩
            case measure => simp [intOf]; omega
        · obtain rfl : i = 8 := by omega
          go_wp2
          go_round
          case rel => exact ⟨k + 1, by omega, by go_num, num_u32 (by rw [HR.out]; rfl)⟩
          case measure => simp [intOf]; omega
    · have HA := hid (crcRun_all s k hk hlt)
      have he : (4294967295 : Int) - (crcRun (s.data.toList.take k) : Nat) = ((4294967295 - crcRun (s.data.toList.take k) : Nat) : Int) := by omega
      have HE := hid he
      clear he
      go_wp2
      go_ret
      exact ⟨ret_u32 (HE.out.trans (by rw [HA.out]; rfl)), rfl⟩
end Go.Proofs.YtmehcogaopackaaGreat
/- The walks of seal.head, the reference's four, both Frames: both answer 'frameOf'. -/
namespace Go.Proofs.YtmehcogaopackaaGreat
open Go.RowKit

theorem cell_new4 (w : World) (x0 x1 x2 x3 : Int) (t : TypeId) (i : Nat) (h : i < 4) :
    (w.alloc (.cells #[.int .u8 x0, .int .u8 x1, .int .u8 x2, .int .u8 x3] t)).cell? ⟨w.heap.size, 0 + i, none⟩ = some (.int .u8 ([x0, x1, x2, x3].getD i 0)) := by
  rw [Nat.zero_add, World.cell?_alloc_mark]
  match i, h with
  | 0, _ => rfl
  | 1, _ => rfl
  | 2, _ => rfl
  | 3, _ => rfl
theorem conv_four {P : Program} (w : World) (x0 x1 x2 x3 : Int) (t src e dst : TypeId) (hs : P.underlying src = some (.slice e)) (he : P.underlying e = some (.int .u8)) (hd : P.underlying dst = some .string) :
    (convert src dst (.slice (some ⟨w.heap.size, 0, none⟩) 4 4)).run P (w.alloc (.cells #[.int .u8 x0, .int .u8 x1, .int .u8 x2, .int .u8 x3] t)) =
      .ok (.string (strOfNums [x0, x1, x2, x3])) (w.alloc (.cells #[.int .u8 x0, .int .u8 x1, .int .u8 x2, .int .u8 x3] t)) :=
  run_convert_bytes_arg _ src e hs he _ 0 4 4 _ rfl (fun i hi => cell_new4 w x0 x1 x2 x3 t i hi) dst hd
theorem cell_new8 (w : World) (x0 x1 x2 x3 x4 x5 x6 x7 : Int) (t : TypeId) (i : Nat) (h : i < 8) :
    (w.alloc (.cells #[.int .u8 x0, .int .u8 x1, .int .u8 x2, .int .u8 x3, .int .u8 x4, .int .u8 x5, .int .u8 x6, .int .u8 x7] t)).cell? ⟨w.heap.size, 0 + i, none⟩ = some (.int .u8 ([x0, x1, x2, x3, x4, x5, x6, x7].getD i 0)) := by
  rw [Nat.zero_add, World.cell?_alloc_mark]
  match i, h with
  | 0, _ => rfl
  | 1, _ => rfl
  | 2, _ => rfl
  | 3, _ => rfl
  | 4, _ => rfl
  | 5, _ => rfl
  | 6, _ => rfl
  | 7, _ => rfl
theorem conv_head {P : Program} (w : World) (x0 x1 x2 x3 x4 x5 x6 x7 : Int) (t src e dst : TypeId) (hs : P.underlying src = some (.slice e)) (he : P.underlying e = some (.int .u8)) (hd : P.underlying dst = some .string) :
    (convert src dst (.slice (some ⟨w.heap.size, 0, none⟩) 8 8)).run P (w.alloc (.cells #[.int .u8 x0, .int .u8 x1, .int .u8 x2, .int .u8 x3, .int .u8 x4, .int .u8 x5, .int .u8 x6, .int .u8 x7] t)) =
      .ok (.string (strOfNums [x0, x1, x2, x3, x4, x5, x6, x7])) (w.alloc (.cells #[.int .u8 x0, .int .u8 x1, .int .u8 x2, .int .u8 x3, .int .u8 x4, .int .u8 x5, .int .u8 x6, .int .u8 x7] t)) :=
  run_convert_bytes_arg _ src e hs he _ 0 8 8 _ rfl (fun i hi => cell_new8 w x0 x1 x2 x3 x4 x5 x6 x7 t i hi) dst hd
theorem size8 (x0 x1 x2 x3 x4 x5 x6 x7 : Int) : (strOfNums [x0, x1, x2, x3, x4, x5, x6, x7]).size = 8 := strOfNums_size _

/-- the eight bytes ahead of a body -/
theorem head_str (n c : Nat) (hn : n ≤ 65536) (hc : c ≤ 4294967295) :
    strOfNums [(n : Int) / 16777216, (n : Int) / 65536, (n : Int) / 256 % 256, (n : Int) % 256, (c : Int) / 16777216, (c : Int) / 65536 % 256, (c : Int) / 256 % 256, (c : Int) % 256] = str (four n ++ four c) := by
  apply ByteArray.ext
  simp only [strOfNums, str, four, List.map_cons, List.map_nil, List.cons_append, List.nil_append]
  rw [byte_of_int (n := n / 16777216) (by omega), byte_of_int (n := n / 65536) (by omega), byte_of_int (n := n / 256) (by omega), byte_of_int (n := n) (by omega),
    byte_of_int (n := c / 16777216) (by omega), byte_of_int (n := c / 65536) (by omega), byte_of_int (n := c / 256) (by omega), byte_of_int (n := c) (by omega)]
theorem four_str (n : Nat) (hn : n ≤ 4294967295) :
    strOfNums [(n : Int) / 16777216, (n : Int) / 65536 % 256, (n : Int) / 256 % 256, (n : Int) % 256] = str (four n) := by
  apply ByteArray.ext
  simp only [strOfNums, str, four, List.map_cons, List.map_nil]
  rw [byte_of_int (n := n / 16777216) (by omega), byte_of_int (n := n / 65536) (by omega), byte_of_int (n := n / 256) (by omega), byte_of_int (n := n) (by omega)]

set_option maxHeartbeats 400000 in
theorem head_any (n c : Int) (w : World) (h0 : 0 ≤ n) (h1 : n ≤ 65536) (h2 : 0 ≤ c) (h3 : c ≤ 4294967295) :
    Calls Tryz.prog 111 #[.int .i64 n, .int .u32 c] w fun e w' =>
      e = .returned (.agg #[.int .u8 (n / 16777216), .int .u8 (n / 65536), .int .u8 (n / 256 % 256), .int .u8 (n % 256), .int .u8 (c / 16777216), .int .u8 (c / 65536 % 256), .int .u8 (c / 256 % 256), .int .u8 (c % 256)]) ∧ Below w.heap.size w w' := by
  go_enter Tryz.func111, Tryz.ntmps111
  go_wp2
  go_rounds 5
  go_returns
  exact ⟨rfl, ((Below.refl _ _).alloc (Nat.le_refl _) _).alloc (by simp) _⟩

set_option maxHeartbeats 400000 in
theorem four_any (n : Int) (w : World) (h2 : 0 ≤ n) (h3 : n ≤ 4294967295) :
    Calls Tryz.prog 129 #[.int .u32 n] w fun e w' => e = .returned (.string (str (four n.toNat))) ∧ Below w.heap.size w w' := by
  obtain ⟨n, rfl⟩ := Int.eq_ofNat_of_zero_le h2
  have hcv := fun w x0 x1 x2 x3 => conv_four (P := Tryz.prog) w x0 x1 x2 x3 5 159 5 9 Tryz.underlying159 Tryz.underlying5 Tryz.underlying9
  have HF := hid (four_str n (by omega))
  go_enter Tryz.func129, Tryz.ntmps129
  go_wp2
  go_ret
  rw [Int.toNat_natCast, ← HF.out]
  exact ⟨rfl, (Below.refl _ _).alloc (Nat.le_refl _) _⟩

set_option maxHeartbeats 400000 in
theorem frame_any (s : ByteArray) (w : World) (hs : s.size ≤ maxLen) :
    Calls Tryz.prog 105 #[.string s] w fun e w' =>
      e = .returned (.tuple #[.string (str (frameOf s.data.toList).1), .int .i64 (frameOf s.data.toList).2]) ∧ Below w.heap.size w w' := by
  unfold maxLen at hs
  have hc := crc_le s.data.toList
  have hlen := len_of s
  by_cases h : 65536 < s.size
  · have HF := hid (show frameOf s.data.toList = ([], 2) by unfold frameOf; rw [if_pos (by omega)])
    clear hlen
    go_enter Tryz.func105, Tryz.ntmps105
    go_wp2_with fail
    go_ret2
    rw [HF.out]
    exact ⟨rfl, Below.refl _ _⟩
  · have HF := hid (show frameOf s.data.toList = (four s.size ++ four (crc s.data.toList) ++ s.data.toList, 0) by unfold frameOf; rw [if_neg (by omega), frame, hlen])
    have HH := hid (head_str s.size (crc s.data.toList) (by omega) hc)
    clear hlen
    have hcv := fun w x0 x1 x2 x3 x4 x5 x6 x7 => conv_head (P := Tryz.prog) w x0 x1 x2 x3 x4 x5 x6 x7 170 159 5 9 Tryz.underlying159 Tryz.underlying5 Tryz.underlying9
    have hsz := size8
    go_enter Tryz.func105, Tryz.ntmps105
    go_wp2_with (first | (go_at_call 112; refine (sum_any _ _ (by unfold maxLen; omega)).mono ?_; rintro e w' ⟨rfl, rfl⟩) | (go_at_call 111; refine (head_any _ _ _ (by omega) (by omega) (by omega) (by omega)).mono ?_; rintro e w' ⟨rfl, hb⟩))
    go_ret2
    rw [HF.out, ← str_append_of, ← HH.out]
    exact ⟨rfl, hb.alloc hb.size _⟩

set_option maxHeartbeats 400000 in
theorem refFrame_any (s : ByteArray) (w : World) (hs : s.size ≤ maxLen) :
    Calls Tryz.prog 117 #[.string s] w fun e w' =>
      e = .returned (.tuple #[.string (str (frameOf s.data.toList).1), .int .i64 (frameOf s.data.toList).2]) ∧ Below w.heap.size w w' := by
  unfold maxLen at hs
  have hc := crc_le s.data.toList
  have hlen := len_of s
  by_cases h : 65536 < s.size
  · have HF := hid (show frameOf s.data.toList = ([], 2) by unfold frameOf; rw [if_pos (by omega)])
    clear hlen
    go_enter Tryz.func117, Tryz.ntmps117
    go_wp2_with fail
    go_ret2
    rw [HF.out]
    exact ⟨rfl, Below.refl _ _⟩
  · have HF := hid (show frameOf s.data.toList = (four s.size ++ four (crc s.data.toList) ++ s.data.toList, 0) by unfold frameOf; rw [if_neg (by omega), frame, hlen])
    clear hlen
    have hsz : ∀ n, (str (four n)).size = 4 := fun n => str_size _
    go_enter Tryz.func117, Tryz.ntmps117
    go_wp2_with fail
    refine (four_any _ _ (by omega) (by omega)).mono ?_
    rintro e w1 ⟨rfl, hb1⟩
    go_wp2_with fail
    refine (refSum_any _ _ (by unfold maxLen; omega)).mono ?_
    rintro e w' ⟨rfl, rfl⟩
    go_wp2_with fail
    refine (four_any _ _ (by omega) (by omega)).mono ?_
    rintro e w2 ⟨rfl, hb2⟩
    go_wp2_with fail
    go_ret2
    rw [HF.out]
    refine ⟨?_, hb1.trans (hb2.mono hb1.size)⟩
    rw [str_append, str_append_of]
    rfl
end Go.Proofs.YtmehcogaopackaaGreat
/- The walks of pack.Nums and of the reference's Nums. -/
namespace Go.Proofs.YtmehcogaopackaaGreat
open Go.RowKit

/-- the slice value v holds the numbers ns, of 64 bits without sign -/
def HoldsNums (w : World) (v : Value) (ns : List Nat) : Prop :=
  ∃ (a : Option Addr) (cap : Nat), v = .slice a ns.length cap ∧ ns.length * 8 ≤ 140737488355328 ∧ (∀ n ∈ ns, n < top64) ∧ (0 < ns.length → ∃ b off, a = some ⟨b, off, none⟩ ∧ ∀ j (h : j < ns.length), w.cell? ⟨b, off + j, none⟩ = some (.int .u64 (ns[j] : Int)))
theorem holdsNums_below {w w' : World} {v : Value} {ns : List Nat} (h : HoldsNums w v ns) (hb : Below w.heap.size w w') : HoldsNums w' v ns := by
  obtain ⟨a, cap, hv, hm, hl, hc⟩ := h
  refine ⟨a, cap, hv, hm, hl, fun hp => ?_⟩
  obtain ⟨b, off, ha, hcell⟩ := hc hp
  exact ⟨b, off, ha, fun j hj => (hb.cell (p := ⟨b, off + j, none⟩) (World.block_lt_of_cell? _ _ (hcell j hj))).trans (hcell j hj)⟩
theorem nums_snoc (ns : List Nat) (n : Nat) (k : Nat) : num k ++ ((ns ++ [n]).map num).flatten = num k ++ (ns.map num).flatten ++ num n := by simp
/-- the first k of the numbers -/
def numsK (ns : List Nat) (k : Nat) : Bytes := num ns.length ++ ((ns.take k).map num).flatten
theorem numsK_succ (ns : List Nat) (k : Nat) (h : k < ns.length) : numsK ns (k + 1) = numsK ns k ++ num ns[k] := by
  unfold numsK
  rw [List.take_succ_eq_append_getElem h, nums_snoc]
theorem numsK_all (ns : List Nat) (k : Nat) (h : ns.length ≤ k) : numsK ns k = nums ns := by
  unfold numsK nums
  rw [List.take_of_length_le h]
theorem numsK_len (ns : List Nat) (k : Nat) : (numsK ns k).length ≤ 10 + 10 * ns.length := by
  have h1 := num_len ns.length
  have h2 := flat_len (ns.take k)
  have h3 : (ns.take k).length ≤ ns.length := by rw [List.length_take]; omega
  unfold numsK
  rw [List.length_append]
  omega

set_option maxHeartbeats 2000000 in
theorem nums_any (ns : List Nat) (v : Value) (w : World) (hv : HoldsNums w v ns) :
    Calls Tryz.prog 106 #[v] w fun e w' => e = .returned (.string (str (nums ns))) ∧ Below w.heap.size w w' := by
  obtain ⟨a, ca, rfl, hl, hm, hca⟩ := hv
  have HC := hid hca
  have HM := hid hm
  have hN := num_any ns.length (by unfold top64; omega)
  have H0 := hid (show num ns.length = numsK ns 0 by simp [numsK])
  rw [H0.out] at hN
  have hsz : ∀ k, (str (numsK ns k)).size ≤ 10 + 10 * ns.length := fun k => by rw [str_size]; exact numsK_len ns k
  clear hca hm
  go_enter Tryz.func106, Tryz.ntmps106
  go_wp2_with fail
  refine (hN _).mono ?_
  rintro e w1 ⟨rfl, hb1⟩
  go_wp2_with fail
  go_loopw [3, 12] (fun vs i wr => ∃ k : Nat, i = .int .i64 k ∧ k ≤ ns.length ∧ vs = .string (str (numsK ns k)) ∧ Below w.heap.size w wr) (fun _ i _ => ns.length - (intOf i).toNat)
  case atStart => exact ⟨0, rfl, Nat.zero_le _, rfl, hb1⟩
  case round =>
    obtain ⟨k, rfl, hk, rfl, hB⟩ := hrel
    by_cases hlt : k < ns.length
    · obtain ⟨b, off, rfl, hcell⟩ := HC.out (by omega)
      have hcx := (hB.cell (p := ⟨b, off + k, none⟩) (World.block_lt_of_cell? _ _ (hcell k hlt))).trans (hcell k hlt)
      have hnk := num_any ns[k] (HM.out _ (List.getElem_mem hlt))
      have HS := hid (numsK_succ ns k hlt)
      have hs1 := hsz k
      have hs2 : (str (num ns[k])).size = (num ns[k]).length := str_size _
      have hs3 := num_len ns[k]
      have HA := hid (show str (numsK ns k) ++ str (num ns[k]) = str (numsK ns (k + 1)) by rw [HS.out, str_append])
      clear hcell
      generalize ns[k] = x at *
      go_wp2_with fail
      refine (hnk _).mono ?_
      rintro e w2 ⟨rfl, hb2⟩
      have hB2 := hB.trans (hb2.mono hB.size)
      go_wp2_with fail
      go_roundw
      case rel => exact ⟨k + 1, by go_num, by omega, by rw [HA.out], hB2⟩
      case measure => simp [intOf]; omega
    · have HT := hid (numsK_all ns k (by omega))
      go_wp2_with fail
      go_ret
      rw [HT.out]
      exact ⟨rfl, hB⟩

set_option maxHeartbeats 2000000 in
theorem refNums_any (ns : List Nat) (v : Value) (w : World) (hv : HoldsNums w v ns) :
    Calls Tryz.prog 92 #[v] w fun e w' => e = .returned (.string (str (nums ns))) ∧ Below w.heap.size w w' := by
  obtain ⟨a, ca, rfl, hl, hm, hca⟩ := hv
  have HC := hid hca
  have HM := hid hm
  have hN := refNum_any ns.length (by unfold top64; omega)
  have H0 := hid (show num ns.length = numsK ns 0 by simp [numsK])
  rw [H0.out] at hN
  have hsz : ∀ k, (str (numsK ns k)).size ≤ 10 + 10 * ns.length := fun k => by rw [str_size]; exact numsK_len ns k
  clear hca hm
  go_enter Tryz.func92, Tryz.ntmps92
  go_wp2_with fail
  refine (hN _).mono ?_
  rintro e w1 ⟨rfl, hb1⟩
  go_wp2_with fail
  go_loopw [3, 4] (fun vs i wr => ∃ k : Nat, i = .int .i64 k ∧ k ≤ ns.length ∧ vs = .string (str (numsK ns k)) ∧ Below w.heap.size w wr) (fun _ i _ => ns.length - (intOf i).toNat)
  case atStart => exact ⟨0, rfl, Nat.zero_le _, rfl, hb1⟩
  case round =>
    obtain ⟨k, rfl, hk, rfl, hB⟩ := hrel
    by_cases hlt : k < ns.length
    · obtain ⟨b, off, rfl, hcell⟩ := HC.out (by omega)
      have hcx := (hB.cell (p := ⟨b, off + k, none⟩) (World.block_lt_of_cell? _ _ (hcell k hlt))).trans (hcell k hlt)
      have hnk := refNum_any ns[k] (HM.out _ (List.getElem_mem hlt))
      have HS := hid (numsK_succ ns k hlt)
      have hs1 := hsz k
      have hs2 : (str (num ns[k])).size = (num ns[k]).length := str_size _
      have hs3 := num_len ns[k]
      have HA := hid (show str (numsK ns k) ++ str (num ns[k]) = str (numsK ns (k + 1)) by rw [HS.out, str_append])
      clear hcell
      generalize ns[k] = x at *
      go_wp2_with fail
      refine (hnk _).mono ?_
      rintro e w2 ⟨rfl, hb2⟩
      have hB2 := hB.trans (hb2.mono hB.size)
      go_wp2_with fail
      go_roundw
      case rel => exact ⟨k + 1, by go_num, by omega, by rw [HA.out], hB2⟩
      case measure => simp [intOf]; omega
    · have HT := hid (numsK_all ns k (by omega))
      go_wp2_with fail
      go_ret
      rw [HT.out]
      exact ⟨rfl, hB⟩
end Go.Proofs.YtmehcogaopackaaGreat
