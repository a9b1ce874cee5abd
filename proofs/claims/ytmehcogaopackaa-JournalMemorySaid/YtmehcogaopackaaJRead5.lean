/-
  The walk of the journal's read: its deferred closure, and it.
-/
import Derived.Test.YtmehcogaopackaaJRead4
import Derived.Defers
import Derived.Recover
namespace Go.Proofs.Ytmehcogaopackaa
open Go.RowKit
set_option linter.unusedVariables false
set_option linter.unusedSimpArgs false
theorem assertFault (W : World) (v : Value) : (Instr.typeAssert (.iface 104 v) 20 104 true).run Try.prog W = .ok (.tuple #[v, .bool true]) W := by kernel_rfl
set_option maxRecDepth 100000 in
set_option maxHeartbeats 1000000 in
theorem catch_idle (k o : Nat) (w : World) :
    CallsD Try.prog 52 #[.pointer (some ⟨k, 0, none⟩), .pointer (some ⟨o, 0, none⟩)] .returning w fun e u' w' => e = .returned (.tuple #[]) ∧ u' = .returning ∧ w' = w := by
  refine callsD_of_wpS Try.func52 rfl fun c₀ cs hu => ?_
  apply wpS_seq
  apply wpS_region
  simp [wpOpsS, go_sem, recoverD, hu, Try.ntmps52, Exit.thenS]
  refine wpS_of_wp ?_
  go_wp2_with fail
  cases c₀
  simp_all [bodyPostS, results, Try.results52]
set_option maxRecDepth 100000 in
set_option maxHeartbeats 1000000 in
theorem catch_fault (k o : Nat) (older : List PanicEntry) (w : World) (cs0 : Array Value) (hcs : cs0.size = 9) (hk : w.heap[k]? = some (.cells cs0 63)) (v0 : Value) (ho : w.heap[o]? = some (.cells #[v0] 4)) :
    CallsD Try.prog 52 #[.pointer (some ⟨k, 0, none⟩), .pointer (some ⟨o, 0, none⟩)] (.panicking ({ v := .iface 104 (.agg #[]), recovered := false } :: older)) w fun e u' w' =>
      e = .returned (.tuple #[]) ∧ u' = .panicking ({ v := .iface 104 (.agg #[]), recovered := true } :: older) ∧ w'.heap[k]? = some (.cells stZ 63) ∧ w'.heap[o]? = some (.cells #[.bool false] 4) ∧ Kept2 k o w w' := by
  have hta := fun w => assertFault w (.agg #[])
  refine callsD_of_wpS Try.func52 rfl fun c₀ cs hu => ?_
  apply wpS_seq
  apply wpS_region
  simp [wpOpsS, go_sem, recoverD, hu, Try.ntmps52, Exit.thenS]
  rw [show (#[Value.pointer (some ⟨k, 0, none⟩), Value.pointer (some ⟨o, 0, none⟩)] ++ ((Array.replicate 15 undef).setIfInBounds 3 (Value.iface 104 (Value.agg #[]))).setIfInBounds 0 (Value.iface 104 (Value.agg #[]))) = #[Value.pointer (some ⟨k, 0, none⟩), Value.pointer (some ⟨o, 0, none⟩), Value.iface 104 (Value.agg #[]), undef, undef, Value.iface 104 (Value.agg #[]), undef, undef, undef, undef, undef, undef, undef, undef, undef, undef, undef] from rfl]
  refine wpS_of_wp ?_
  have hkl := (Array.getElem?_eq_some_iff.1 hk).1
  have hol := (Array.getElem?_eq_some_iff.1 ho).1
  have hk1 := (heap_alloc_old w (.cells #[] 104) hkl).trans hk
  have ho1 := (heap_alloc_old w (.cells #[] 104) hol).trans ho
  have hko : o ≠ k := by rintro rfl; rw [hk] at ho; cases ho
  have ho2 : ((w.alloc (.cells #[] 104)).setRow k stZ).heap[o]? = some (.cells #[v0] 4) := (setRow_other _ k o stZ hko).trans ho1
  have co := cell_in ho2 0 v0 rfl
  have fo := free_in ho2 0
  go_wp2_with (refine wpList_store_row rfl 63 _ _ rfl k stZ (by rfl) (by rfl) 63 cs0 hk1 sizeSt hcs (by simp [stZ, Value.oneCell']) ?_)
  refine ⟨rfl, _, rfl, .tuple #[], by simp [results, Try.results52], rfl, rfl, ?_, ?_, ?_⟩
  · refine (Below.heap_setCell _ _ _ _ hko.symm).trans ?_
    exact setRow_heap _ k cs0 stZ _ (0, 0) hk1
  · exact heap_set ho2 0 (.bool false)
  · have h0 : Kept2 k o w (w.alloc (.cells #[] 104)) := .below ((Below.refl _ _).alloc (Nat.le_refl _) _)
    have h1 : Kept2 o k w (w.alloc (.cells #[] 104)) := .below ((Below.refl _ _).alloc (Nat.le_refl _) _)
    have h2 := h1.row stZ
    exact Kept2.set (k := o) ⟨h2.1, h2.2.1, h2.2.2.1, h2.2.2.2.1, fun j hj a b => h2.2.2.2.2 j hj b a⟩ 0 (.bool false)
theorem results_read (tmps : Array Value) (w : World) (k o : Nat) (cs : Array Value) (v : Bool)
    (hp : tmps.getD 2 undef = .pointer (some ⟨k, 0, none⟩)) (hq : tmps.getD 3 undef = .pointer (some ⟨o, 0, none⟩)) (hk : w.heap[k]? = some (.cells cs 63)) (hcs : cs.size = 9) (ho : w.heap[o]? = some (.cells #[.bool v] 4)) :
    (results Try.f27 tmps).run Try.prog w = .ok (.tuple #[.agg cs, .bool v]) w := by
  have hp' : tmps[2]?.getD undef = .pointer (some ⟨k, 0, none⟩) := by simpa using hp
  have hq' : tmps[3]?.getD undef = .pointer (some ⟨o, 0, none⟩) := by simpa using hq
  have co := cell_in ho 0 _ rfl
  have hu : Try.prog.underlying 63 = some _ := Try.underlying63
  have hl := run_loadVar_row w k 63 63 cs (0, 0) _ hk hu rfl (by rw [sizeSt, hcs])
  have hlo : (loadVar 4 ⟨o, 0, none⟩).run Try.prog w = .ok (.bool v) w := by
    simp [go_sem, loadVar, Try.underlying4, co]
  simp [results, Try.results27, hp', hq', asAddr, hl, hlo]
end Go.Proofs.Ytmehcogaopackaa
