/-
  A map of files that has at most 'log': what it reads as; a look-up, a store, as equations.
-/
import Derived.Test.YtmehcogaopackaaChecked
import Derived.Test.YtmehcogaopackaaJP
import Derived.Maps.StringElems
import Derived.Maps.OwnSet
import Derived.StringKeys
import Derived.Maps.RangeWalk
namespace Go.Proofs.Ytmehcogaopackaa
open Go.RowKit Go.Maps Go.WideMaps
set_option linter.unusedVariables false
def logB : Bytes := [108, 111, 103]
/-- what the map reads as -/
def DM (o : Option Bytes) : DataW Unit := match o with | none => .map [] | some b => .map [(.string logB, .lit (.string b))]
theorem law9 : Keyed Try.prog 9 := string_keyed Try.underlying9
theorem keyLog : keyOf Try.prog 9 (.string { data := #[108, 111, 103] }) = some (.string logB) := keyOf_string_mk Try.underlying9 (by decide)
theorem DM_put (o : Option Bytes) (b : Bytes) : (DM o).put (.string logB) (.lit (.string b)) = DM (some b) := by
  cases o <;> simp [DM, DataW.put, DataW.insert, Lit.sameKey]
theorem DM_at (o : Option Bytes) : (DM o).atKey (.string logB) (.lit (.string [])) = .lit (.string (o.getD [])) := by
  cases o <;> simp [DM, DataW.atKey, Lit.sameKey]
theorem DM_has (o : Option Bytes) : Maps.has (DM o) (.string logB) = o.isSome := by
  cases o <;> simp [DM, Maps.has, Lit.sameKey]
theorem DM_size (o : Option Bytes) : Maps.size (DM o) ≤ 1 := by cases o <;> simp [DM, Maps.size]
theorem DM_key (o : Option Bytes) (k : Lit) (h : Maps.has (DM o) k = true) : k = .string logB := by
  cases o with
  | none => simp [DM, Maps.has] at h
  | some b =>
    cases k <;> simp [DM, Maps.has, Lit.sameKey] at h
    rw [h]
/-- block b of W is a map of files that has at most 'log', whose bytes are o -/
def MapAt (W : World) (b : Nat) (o : Option Bytes) : Prop := W.ownsMap Try.prog 9 (plainElem Try.prog 9) b 1 (DM o)
theorem ownsMap_few {H : Type} {P : Program} {k : TypeId} {R : Value → Option (DataW H × List MemPlace)} {w : World} {b n : Nat} {D : DataW H} (h : w.ownsMap P k R b n D) {m : Nat} (hm : Maps.size D ≤ m) : w.ownsMap P k R b m D := by
  obtain ⟨es, clock, h1, h2, h3, rfl⟩ := h
  refine ⟨es, clock, h1, h2, ?_, rfl⟩
  have : Maps.size (DataW.map ((es.toList.map (Go.WideElems.rg P k R)).foldr DataW.insert [])) = es.size := by
    show ((es.toList.map (Go.WideElems.rg P k R)).foldr DataW.insert []).length = es.size
    rw [length_sorted]
    simp
  omega
theorem zero9 (w : World) : (zeroValue 9).run Try.prog w = .ok (.string { data := #[] }) w := by kernel_rfl
theorem plain9 (b : Bytes) (h : b.length ≤ maxLen) : plainElem (H := Unit) Try.prog 9 (.string (str b)) = some (.lit (.string b), []) := plainElem_string Try.underlying9 (by rw [str_size]; exact h)
theorem MapAt.look {W : World} {b : Nat} {o : Option Bytes} (h : MapAt W b o) : (Instr.lookup 83 (.map (some b)) (.string { data := #[108, 111, 103] }) false).run Try.prog W = .ok (.string (str (o.getD []))) W := by
  obtain ⟨v, ps, hrun, hv⟩ := World.ownsMap.lookup h law9 Try.underlying83 (zero9 W) (plain9 [] (by decide)) keyLog
  rw [DM_at] at hv
  obtain ⟨s, rfl, hz, _⟩ := plainElem_string_inv Try.underlying9 hv
  simp only [Prod.mk.injEq, DataW.lit.injEq, Lit.string.injEq] at hz
  rw [hrun]
  have : s = str (o.getD []) := by rw [hz.1]; rfl
  rw [this]
theorem MapAt.look_ok {W : World} {b : Nat} {o : Option Bytes} (h : MapAt W b o) : (Instr.lookup 83 (.map (some b)) (.string { data := #[108, 111, 103] }) true).run Try.prog W = .ok (.tuple #[.string (str (o.getD [])), .bool o.isSome]) W := by
  obtain ⟨v, ps, hrun, hv⟩ := World.ownsMap.look_ok h law9 Try.underlying83 (zero9 W) (plain9 [] (by decide)) keyLog
  rw [DM_at] at hv
  rw [DM_has] at hrun
  obtain ⟨s, rfl, hz, _⟩ := plainElem_string_inv Try.underlying9 hv
  simp only [Prod.mk.injEq, DataW.lit.injEq, Lit.string.injEq] at hz
  rw [hrun]
  have : s = str (o.getD []) := by rw [hz.1]; rfl
  rw [this]
theorem MapAt.store {W : World} {b : Nat} {o : Option Bytes} (h : MapAt W b o) (s : Bytes) (hs : s.length ≤ maxLen) : ∃ w', (Instr.mapUpdate 83 (.map (some b)) (.string { data := #[108, 111, 103] }) (.string (str s))).run Try.prog W = .ok () w' ∧ MapAt w' b (some s) ∧ W.grownBy w' (some b) := by
  obtain ⟨w', hrun, hown, hg⟩ := World.ownsMap.update h law9 Try.underlying83 (by unfold maxLen; omega) keyLog (plain9 s hs)
  rw [DM_put] at hown
  exact ⟨w', hrun, ownsMap_few hown (DM_size _), hg⟩
theorem MapAt.kept {W W' : World} {b : Nat} {o : Option Bytes} (h : MapAt W b o) {row : Option Nat} (hg : W.grownBy W' row) (hne : some b ≠ row) : MapAt W' b o := World.ownsMap.kept h hg hne
theorem MapAt.lt {W : World} {b : Nat} {o : Option Bytes} (h : MapAt W b o) : b < W.heap.size := World.ownsMap.lt h
theorem MapAt.of_block {W W' : World} {b : Nat} {o : Option Bytes} (h : MapAt W b o) (hb : W'.heap[b]? = W.heap[b]?) : MapAt W' b o := by
  obtain ⟨es, clock, h1, h2⟩ := h
  exact ⟨es, clock, hb.trans h1, h2⟩
theorem MapAt.made (W : World) : MapAt (W.alloc (.map #[] 0)) W.heap.size none := (World.ownsMap_made W _ _ _).mono (Nat.zero_le _)
theorem MapAt.isMap {W : World} {b : Nat} {o : Option Bytes} (h : MapAt W b o) : ∃ es clock, W.heap[b]? = some (.map es clock) := by
  obtain ⟨es, clock, h1, _⟩ := h
  exact ⟨es, clock, h1⟩
theorem MapAt.len {W : World} {b : Nat} {o : Option Bytes} (h : MapAt W b o) : lenO o ≤ maxLen := by
  obtain ⟨v, ps, hrun, hv⟩ := World.ownsMap.lookup h law9 Try.underlying83 (zero9 W) (plain9 [] (by decide)) keyLog
  rw [DM_at] at hv
  obtain ⟨s, rfl, hz, hl⟩ := plainElem_string_inv Try.underlying9 hv
  simp only [Prod.mk.injEq, DataW.lit.injEq, Lit.string.injEq] at hz
  unfold lenO
  rw [hz.1, len_of]
  exact hl
theorem keyOf_str_inv {P : Program} {k : TypeId} (hk : P.underlying k = some .string) {key : Value} {kl : Lit} (h : keyOf P k key = some kl) : ∃ s : ByteArray, key = .string s ∧ kl = .string s.data.toList := by
  rw [keyOf_string hk] at h
  cases key <;> simp [mapKey, hk] at h
  exact ⟨_, rfl, h.2.symm⟩
/-- the step of a range over a map of files that has at most 'log' -/
theorem wpList_next_log (w : World) {ops : Array Oper} {rest : List Oper} {o : Oper} {a : Act} {Q : Exit → Act → World → Prop} (hg : o.guard = none) (it : Operand) (hop : o.op = Op.next it false) (b r : Nat) (f : Option Bytes) (left : Lit → Bool) (cnt : Nat)
    (hit : a.eval it = .pointer (some ⟨r, 0, none⟩)) (h : w.ranges Try.prog 9 (plainElem Try.prog 9) b r 1 (DM f) left cnt)
    (hDone : (∀ kl, left kl = false) → wpList Try.prog ops Q rest (a.put o.dst (.tuple #[.bool false])) w)
    (hMore : ∀ (c : Bytes) (w' : World) (cnt' : Nat), f = some c → left (.string logB) = true → w'.ranges Try.prog 9 (plainElem Try.prog 9) b r 1 (DM f) (fun z => left z && !z.sameKey (.string logB)) cnt' → cnt' < cnt → w.grownBy w' (some r) → w'.heap.size = w.heap.size →
      (Instr.entry (.pointer (some ⟨r, 0, none⟩))).run Try.prog w' = .ok (.tuple #[.string { data := #[108, 111, 103] }, .string (str c)]) w' → wpList Try.prog ops Q rest (a.put o.dst (.tuple #[.bool true, .string { data := #[108, 111, 103] }, .string (str c)])) w') :
    wpList Try.prog ops Q (o :: rest) a w := by
  refine wpList_next_ranges w hg it hop 9 law9 (plainElem Try.prog 9) Value.string Value.string (fun key kl hkey => by obtain ⟨s, rfl, _⟩ := keyOf_str_inv Try.underlying9 hkey; exact ⟨s, rfl⟩) (fun v y hv => by obtain ⟨c, rfl, _⟩ := plainElem_string_inv Try.underlying9 hv; exact ⟨c, rfl⟩)
    b r 1 (DM f) left cnt hit h (fun _ hl => hDone hl) (fun x c kl y w' cnt' hkey hlk hv hat hrg hlt hgr hsz hen => ?_)
  obtain ⟨s, e1, rfl⟩ := keyOf_str_inv Try.underlying9 hkey
  cases e1
  obtain ⟨c', e2, rfl, _⟩ := plainElem_string_inv Try.underlying9 hv
  cases e2
  have hk := DM_key f _ (has_true_of_atKey hat)
  have hx : x = { data := #[108, 111, 103] } := by
    simp only [Lit.string.injEq] at hk
    have : x = str x.data.toList := by cases x; rfl
    rw [this, hk]
    rfl
  subst hx
  cases f with
  | none =>
    have h1 := hat (.lit (.string []))
    have h2 := hat (.lit (.bool true))
    have h3 : (.lit (.bool true) : DataW Unit) = (.lit (.string [])) := Eq.trans (show _ = _ from h2) (Eq.symm (show _ = _ from h1))
    simp at h3
  | some b0 =>
    have h1 := hat (.lit (.bool true))
    have h3 : (DM (some b0)).atKey (.string logB) (.lit (.bool true)) = .lit (.string b0) := by simp [DM, DataW.atKey, Lit.sameKey]
    have h4 : (.lit (.string b0) : DataW Unit) = .lit (.string c.data.toList) := h3.symm.trans h1
    simp only [DataW.lit.injEq, Lit.string.injEq] at h4
    subst h4
    have : c = str c.data.toList := by cases c; rfl
    rw [this] at hen ⊢
    exact hMore _ w' cnt' rfl hlk hrg hlt hgr hsz hen
end Go.Proofs.Ytmehcogaopackaa
