/-
  The walks of the disk's calls: Add, Put, Sync. (Several texts in one.)
-/
import Derived.Defers
import Derived.Recover
import Derived.Test.YtmehcogaopackaaGreatJRead4
import Derived.Test.YtmehcogaopackaaGreatGF
import Derived.Test.YtmehcogaopackaaGreatJDisk2
import Derived.Test.YtmehcogaopackaaGreatGE
/- The walk of the journal's read: its deferred closure, and it. -/
namespace Go.Proofs.YtmehcogaopackaaGreat
open Go.RowKit
set_option linter.unusedVariables false
set_option linter.unusedSimpArgs false
theorem assertFault (W : World) (v : Value) : (Instr.typeAssert (.iface 139 v) 20 139 true).run Tryz.prog W = .ok (.tuple #[v, .bool true]) W := by kernel_rfl
set_option maxRecDepth 100000 in
set_option maxHeartbeats 1000000 in
theorem catch_idle (k o : Nat) (w : World) :
    CallsD Tryz.prog 80 #[.pointer (some ⟨k, 0, none⟩), .pointer (some ⟨o, 0, none⟩)] .returning w fun e u' w' => e = .returned (.tuple #[]) ∧ u' = .returning ∧ w' = w := by
  refine callsD_of_wpS Tryz.func80 rfl fun c₀ cs hu => ?_
  apply wpS_seq
  apply wpS_region
  simp [wpOpsS, go_sem, recoverD, hu, Tryz.ntmps80, Exit.thenS]
  refine wpS_of_wp ?_
  go_wp2_with fail
  cases c₀
  simp_all [bodyPostS, results, Tryz.results80]
set_option maxRecDepth 100000 in
set_option maxHeartbeats 1000000 in
theorem catch_fault (k o : Nat) (older : List PanicEntry) (w : World) (cs0 : Array Value) (hcs : cs0.size = 9) (hk : w.heap[k]? = some (.cells cs0 98)) (v0 : Value) (ho : w.heap[o]? = some (.cells #[v0] 4)) :
    CallsD Tryz.prog 80 #[.pointer (some ⟨k, 0, none⟩), .pointer (some ⟨o, 0, none⟩)] (.panicking ({ v := .iface 139 (.agg #[]), recovered := false } :: older)) w fun e u' w' =>
      e = .returned (.tuple #[]) ∧ u' = .panicking ({ v := .iface 139 (.agg #[]), recovered := true } :: older) ∧ w'.heap[k]? = some (.cells stZ 98) ∧ w'.heap[o]? = some (.cells #[.bool false] 4) ∧ Kept2 k o w w' := by
  have hta := fun w => assertFault w (.agg #[])
  refine callsD_of_wpS Tryz.func80 rfl fun c₀ cs hu => ?_
  apply wpS_seq
  apply wpS_region
  simp [wpOpsS, go_sem, recoverD, hu, Tryz.ntmps80, Exit.thenS]
  rw [show (#[Value.pointer (some ⟨k, 0, none⟩), Value.pointer (some ⟨o, 0, none⟩)] ++ ((Array.replicate 15 undef).setIfInBounds 3 (Value.iface 139 (Value.agg #[]))).setIfInBounds 0 (Value.iface 139 (Value.agg #[]))) = #[Value.pointer (some ⟨k, 0, none⟩), Value.pointer (some ⟨o, 0, none⟩), Value.iface 139 (Value.agg #[]), undef, undef, Value.iface 139 (Value.agg #[]), undef, undef, undef, undef, undef, undef, undef, undef, undef, undef, undef] from rfl]
  refine wpS_of_wp ?_
  have hkl := (Array.getElem?_eq_some_iff.1 hk).1
  have hol := (Array.getElem?_eq_some_iff.1 ho).1
  have hk1 := (heap_alloc_old w (.cells #[] 139) hkl).trans hk
  have ho1 := (heap_alloc_old w (.cells #[] 139) hol).trans ho
  have hko : o ≠ k := by rintro rfl; rw [hk] at ho; cases ho
  have ho2 : ((w.alloc (.cells #[] 139)).setRow k stZ).heap[o]? = some (.cells #[v0] 4) := (setRow_other _ k o stZ hko).trans ho1
  have co := cell_in ho2 0 v0 rfl
  have fo := free_in ho2 0
  go_wp2_with (refine wpList_store_row rfl 98 _ _ rfl k stZ (by rfl) (by rfl) 98 cs0 hk1 sizeSt hcs (by simp [stZ, Value.oneCell']) ?_)
  refine ⟨rfl, _, rfl, .tuple #[], by simp [results, Tryz.results80], rfl, rfl, ?_, ?_, ?_⟩
  · refine (Below.heap_setCell _ _ _ _ hko.symm).trans ?_
    exact setRow_heap _ k cs0 stZ _ (0, 0) hk1
  · exact heap_set ho2 0 (.bool false)
  · have h0 : Kept2 k o w (w.alloc (.cells #[] 139)) := .below ((Below.refl _ _).alloc (Nat.le_refl _) _)
    have h1 : Kept2 o k w (w.alloc (.cells #[] 139)) := .below ((Below.refl _ _).alloc (Nat.le_refl _) _)
    have h2 := h1.row stZ
    exact Kept2.set (k := o) ⟨h2.1, h2.2.1, h2.2.2.1, h2.2.2.2.1, fun j hj a b => h2.2.2.2.2 j hj b a⟩ 0 (.bool false)
theorem results_read (tmps : Array Value) (w : World) (k o : Nat) (cs : Array Value) (v : Bool)
    (hp : tmps.getD 2 undef = .pointer (some ⟨k, 0, none⟩)) (hq : tmps.getD 3 undef = .pointer (some ⟨o, 0, none⟩)) (hk : w.heap[k]? = some (.cells cs 98)) (hcs : cs.size = 9) (ho : w.heap[o]? = some (.cells #[.bool v] 4)) :
    (results Tryz.f46 tmps).run Tryz.prog w = .ok (.tuple #[.agg cs, .bool v]) w := by
  have hp' : tmps[2]?.getD undef = .pointer (some ⟨k, 0, none⟩) := by simpa using hp
  have hq' : tmps[3]?.getD undef = .pointer (some ⟨o, 0, none⟩) := by simpa using hq
  have co := cell_in ho 0 _ rfl
  have hu : Tryz.prog.underlying 98 = some _ := Tryz.underlying98
  have hl := run_loadVar_row w k 98 98 cs (0, 0) _ hk hu rfl (by rw [sizeSt, hcs])
  have hlo : (loadVar 4 ⟨o, 0, none⟩).run Tryz.prog w = .ok (.bool v) w := by
    simp [go_sem, loadVar, Tryz.underlying4, co]
  simp [results, Tryz.results46, hp', hq', asAddr, hl, hlo]
end Go.Proofs.YtmehcogaopackaaGreat
/- The journal's reading of the bodies, as a model; the reading of one record, whatever its kind. -/
namespace Go.Proofs.YtmehcogaopackaaGreat
open Go.RowKit
set_option linter.unusedVariables false
set_option linter.unusedSimpArgs false
def Js.zero : Js := ⟨⟨0, 0, 0⟩, ⟨0, 0, [], []⟩, []⟩
/-- what a record's reading makes of a state (z: how many bytes the image must have) and of the reader -/
def rdKind (k : Nat) (s : Bytes) (st : Nat × Nat) (S : Js) (z : Nat) : Option (Js × Nat × (Nat × Nat)) :=
  if k = 1 then
    let a := pNum s st; let b := pNum s a.2; let c := pCount 5 s b.2; let m := many (pCount 5 s) c.1 c.2; let e := pNum s m.2
    if baseOk a.1 m.1 e.1 = true then some (⟨⟨0, 0, 0⟩, ⟨a.1, b.1, natI m.1, []⟩, []⟩, e.1, e.2) else none
  else if k = 2 then
    let a := pText 4096 s st
    if S.image.length < z ∧ a.1.length = min (z - S.image.length) 4096 then some (⟨S.hard, S.log, S.image ++ a.1⟩, z, a.2) else none
  else if k = 3 then
    let a := pNum s st; let b := pCount 5 s a.2; let c := pNum s b.2
    some (⟨⟨a.1, b.1, c.1⟩, S.log, S.image⟩, z, c.2)
  else
    let a := pNum s st; let b := pNum s a.2; let c := pCount 3 s b.2; let d := pText 2048 s c.2
    if mayEn ⟨b.1, c.1, d.1⟩ = true ∧ S.log.base < a.1 ∧ a.1 - S.log.base - 1 ≤ S.log.l.length then
      some (⟨S.hard, ⟨S.log.base, S.log.bterm, S.log.conf, S.log.l.take (a.1 - S.log.base - 1) ++ [⟨b.1, c.1, d.1⟩]⟩, S.image⟩, z, d.2) else none
/-- what a body makes of a state; whether it is the first one -/
def rdStep (first : Bool) (s : Bytes) (P : Js × Nat) : Option (Js × Nat) :=
  let c := pCount 4 s (0, 0)
  if 0 < c.1 ∧ (decide (c.1 = 1) = first) ∧ (c.1 < 3 ∨ P.1.image.length = P.2) then
    (rdKind c.1 s c.2 P.1 P.2).bind fun r => if pEnd s r.2.2 = 0 then some (r.1, r.2.1) else none
  else none
def rdGo : Bool → Js × Nat → List Bytes → Option (Js × Nat)
  | _, P, [] => some P
  | f, P, s :: r => (rdStep f s P).bind fun P' => rdGo false P' r
/-- what read makes of the bodies -/
def rd (xs : List Bytes) : Option Js := if xs = [] then none else (rdGo true (Js.zero, 0) xs).bind fun P => if P.1.image.length = P.2 then some P.1 else none
/-- a state whose parts are as they may be -/
def JsOk (S : Js) : Prop := S.hard.term < top64 ∧ (0 ≤ S.hard.vote ∧ S.hard.vote ≤ 5) ∧ S.hard.life < top64 ∧ S.log.base ≤ 4611686018427387904 ∧ S.log.bterm < top64 ∧ members S.log.conf = true ∧ (∀ e ∈ S.log.l, e.term < top64 ∧ mayEn e = true) ∧ S.image.length ≤ 262144
theorem JsOk.zero : JsOk Js.zero := by
  refine ⟨by decide, ⟨by decide, by decide⟩, by decide, by decide, by decide, by decide, by simp [Js.zero], by decide⟩
/-- where a reading stands, as it may be -/
def RdOk (S : Js) (z : Nat) (n : Nat) : Prop := JsOk S ∧ z ≤ 262144 ∧ S.image.length ≤ z ∧ S.log.l.length ≤ n
theorem rdKind_ok {k : Nat} {s : Bytes} {st : Nat × Nat} {S : Js} {z n : Nat} {r : Js × Nat × (Nat × Nat)} (h : rdKind k s st S z = some r) (hk : RdOk S z n) : RdOk r.1 r.2.1 (n + 1) := by
  obtain ⟨⟨h1, h2, h3, h4, h5, h6, h7, h8⟩, hz, hi, hn⟩ := hk
  unfold rdKind at h
  split at h
  · simp only at h
    split at h
    · rename_i hb
      simp only [Option.some.injEq] at h
      subst h
      unfold baseOk at hb
      simp only [Bool.and_eq_true, decide_eq_true_eq] at hb
      exact ⟨⟨show (0 : Nat) < top64 by decide, ⟨show (0 : Int) ≤ 0 by decide, show (0 : Int) ≤ 5 by decide⟩, show (0 : Nat) < top64 by decide, hb.2.1, pNum_lt _ _, hb.1, by simp, by simp⟩, hb.2.2, by simp, by simp⟩
    · cases h
  · split at h
    · simp only at h
      split at h
      · rename_i hb
        simp only [Option.some.injEq] at h
        subst h
        have hl := hb.2
        refine ⟨⟨h1, h2, h3, h4, h5, h6, h7, ?_⟩, hz, ?_, by simp only; omega⟩ <;> simp only [List.length_append] <;> omega
      · cases h
    · split at h
      · simp only [Option.some.injEq] at h
        subst h
        exact ⟨⟨pNum_lt _ _, ⟨by simp only; omega, by have := pCount_le 5 s (pNum s st).2; simp only; omega⟩, pNum_lt _ _, h4, h5, h6, h7, h8⟩, hz, hi, by simp only; omega⟩
      · simp only at h
        split at h
        · rename_i hb
          simp only [Option.some.injEq] at h
          subst h
          refine ⟨⟨h1, h2, h3, h4, h5, h6, ?_, h8⟩, hz, hi, ?_⟩
          · intro e he
            simp only [List.mem_append, List.mem_singleton] at he
            rcases he with he | rfl
            · exact h7 e (List.mem_of_mem_take he)
            · exact ⟨pNum_lt _ _, hb.1⟩
          · simp only [List.length_append, List.length_take, List.length_singleton]
            omega
        · cases h
theorem rdStep_ok {f : Bool} {s : Bytes} {S : Js} {z n : Nat} {r : Js × Nat} (h : rdStep f s (S, z) = some r) (hk : RdOk S z n) : RdOk r.1 r.2 (n + 1) := by
  unfold rdStep at h
  simp only at h
  split at h
  · obtain ⟨r', hr, h⟩ := Option.bind_eq_some_iff.1 h
    split at h
    · simp only [Option.some.injEq] at h
      subst h
      exact rdKind_ok hr hk
    · cases h
  · cases h
theorem rdGo_ok : ∀ (xs : List Bytes) (f : Bool) (S : Js) (z n : Nat) (r : Js × Nat), rdGo f (S, z) xs = some r → RdOk S z n → RdOk r.1 r.2 (n + xs.length)
  | [], f, S, z, n, r, h, hk => by
    simp only [rdGo, Option.some.injEq] at h
    subst h
    exact hk
  | s :: xs, f, S, z, n, r, h, hk => by
    unfold rdGo at h
    obtain ⟨P', hP, h⟩ := Option.bind_eq_some_iff.1 h
    have := rdGo_ok xs false P'.1 P'.2 (n + 1) r h (rdStep_ok hP hk)
    rw [List.length_cons]
    rw [show n + 1 + xs.length = n + (xs.length + 1) by omega] at this
    exact this
theorem rd_ok {xs : List Bytes} {S : Js} (h : rd xs = some S) : JsOk S ∧ S.log.l.length ≤ xs.length := by
  unfold rd at h
  split at h
  · cases h
  · obtain ⟨P, hP, h⟩ := Option.bind_eq_some_iff.1 h
    split at h
    · simp only [Option.some.injEq] at h
      subst h
      have := rdGo_ok xs true Js.zero 0 0 P hP ⟨JsOk.zero, by omega, by decide, by decide⟩
      exact ⟨this.1, by have := this.2.2.2; omega⟩
    · cases h
/-- a state that lies in block k, its slices in blocks from B on -/
def StAt (W : World) (k B : Nat) (S : Js) (z : Nat) (vc vl : Value) : Prop :=
  W.heap[k]? = some (.cells (stCells S z vc vl) 98) ∧ W.ownsRow B 3 1 vc S.log.conf.length (intVals S.log.conf) ∧ W.ownsRow B 116 3 vl S.log.l.length (enVals S.log.l)
def kindFn : Nat → FuncId
  | 1 => 82
  | 2 => 83
  | 3 => 84
  | _ => 85
/-- how a record's reading ends -/
def KindPost (r : Option (Js × Nat × (Nat × Nat))) (s : Bytes) (b k B : Nat) (e : Ending) (W' : World) : Prop :=
  match r with
  | some r => e = .returned (.tuple #[]) ∧ ∃ vc' vl', RS W' b s r.2.2 ∧ StAt W' k B r.1 r.2.1 vc' vl'
  | none => e = .panicked fault ∧ ∃ cs' : Array Value, cs'.size = 9 ∧ W'.heap[k]? = some (.cells cs' 98)
theorem kept2_turn {b k : Nat} {F : List Nat} {W W' : World} (h : Kept2 b k W W') (hF : b ∈ F ∧ k ∈ F) : Turn F W W' :=
  ⟨h.1, h.2.1, h.2.2.1, h.2.2.2.1, fun j hj hn => h.2.2.2.2 j hj (fun e => hn (e ▸ hF.1)) (fun e => hn (e ▸ hF.2))⟩
theorem row_kept2 {b k B : Nat} {W W' : World} {e : TypeId} {sz : Nat} {v : Value} {n : Nat} {xs : List Value} (h : W.ownsRow B e sz v n xs) (hk : Kept2 b k W W') (h1 : some b ≠ v.ownBlock) (h2 : some k ≠ v.ownBlock) : W'.ownsRow B e sz v n xs :=
  ownsRow_of_block h fun r hr => hk.2.2.2.2 r (h.lt r hr).2 (fun e => h1 (by rw [hr, e])) (fun e => h2 (by rw [hr, e]))
theorem stCells_size (S : Js) (z : Nat) (vc vl : Value) : (stCells S z vc vl).size = 9 := rfl
theorem pair_of {α β : Type} (p : α × β) : ∃ a b, p = (a, b) := ⟨p.1, p.2, rfl⟩
theorem kind_any {s : Bytes} {b k B : Nat} {W : World} {st : Nat × Nat} {S : Js} {z n : Nat} {vc vl : Value} (hs : s.length ≤ 1152921504606846976) (kd : Nat) (hk1 : 1 ≤ kd) (hk4 : kd ≤ 4) (hR : RS W b s st) (hS : StAt W k B S z vc vl) (hbk : b ≠ k) (hB : B ≤ b ∧ B ≤ k)
    (hok : RdOk S z n) (hn : n ≤ 1000000000000) :
    Calls Tryz.prog (kindFn kd) #[.pointer (some ⟨k, 0, none⟩), .pointer (some ⟨b, 0, none⟩)] W fun e W' => Turn (b :: k :: ownL vl) W W' ∧ KindPost (rdKind kd s st S z) s b k B e W' := by
  have hJ : JR s b k 98 W (stCells S z vc vl) st W := ⟨hR, hS.1, Kept2.refl _ _ _, hbk⟩
  have hkl := hJ.lt
  have nb : some b ≠ vc.ownBlock := own_ne hS.2.1 hR.1 (fun cur e => by cases e)
  have nk : some k ≠ vc.ownBlock := own_ne hS.2.1 hS.1 (fun cur e => by cases e)
  have mb : some b ≠ vl.ownBlock := own_ne hS.2.2 hR.1 (fun cur e => by cases e)
  have mk : some k ≠ vl.ownBlock := own_ne hS.2.2 hS.1 (fun cur e => by cases e)
  have ml : ∀ r, vc.ownBlock = some r → r ∉ ownL vl := fun r hr hm => by
    have h1 := mem_ownL.1 hm
    rcases hS.2.1.2 with ⟨e0, _⟩ | ⟨g, cap, cur, e0, _, hg, _⟩
    · rw [e0] at hr; cases hr
    · rw [e0] at hr
      simp only [Value.ownBlock, Option.some.injEq] at hr
      subst hr
      exact own_ne hS.2.2 hg (fun cur e => by cases e) h1.symm
  rcases (show kd = 1 ∨ kd = 2 ∨ kd = 3 ∨ kd = 4 by omega) with rfl | rfl | rfl | rfl
  · obtain ⟨n0, st1, E0⟩ := pair_of (pNum s st)
    obtain ⟨n1, st2, E1⟩ := pair_of (pNum s st1)
    obtain ⟨nc, st3, E2⟩ := pair_of (pCount 5 s st2)
    obtain ⟨lc, st4, E3⟩ := pair_of (many (pCount 5 s) nc st3)
    obtain ⟨zz, st5, E4⟩ := pair_of (pNum s st4)
    have hm : rdKind 1 s st S z = if baseOk n0 lc zz = true then some (⟨⟨0, 0, 0⟩, ⟨n0, n1, natI lc, []⟩, []⟩, zz, st5) else none := by
      unfold rdKind
      simp only [E0, E1, E2, E3, E4, if_true]
    rw [hm]
    refine Calls.mono (base_any hs (hid E0) (hid E1) (hid E2) (hid E3) (hid E4) _ (stCells_size _ _ _ _) hJ) ?_
    rintro e W' ⟨hsaid, vc', hown, hJ'⟩
    refine ⟨kept2_turn hJ'.kept (by simp), ?_⟩
    by_cases hb : baseOk n0 lc zz = true
    · rw [if_pos hb]
      rw [hb] at hsaid
      refine ⟨hsaid, vc', .slice none 0 0, hJ'.1, hJ'.2.1, ?_, World.ownsRow_nil _ _ _ _⟩
      simp only
      rw [show (natI lc).length = lc.length by simp [natI]]
      exact ownsRow_mono hown (by omega)
    · rw [if_neg hb]
      rw [Bool.not_eq_true] at hb
      rw [hb] at hsaid
      exact ⟨hsaid, _, rfl, hJ'.2.1⟩
  · obtain ⟨p, st1, E0⟩ := pair_of (pText 4096 s st)
    have hp : p.length ≤ 4096 := by have := pText_le 4096 s st; rw [E0] at this; exact this
    have hm : rdKind 2 s st S z = if S.image.length < z ∧ p.length = min (z - S.image.length) 4096 then some (⟨S.hard, S.log, S.image ++ p⟩, z, st1) else none := by
      unfold rdKind
      simp only [E0, if_true]
      rfl
    rw [hm]
    by_cases hb : S.image.length < z ∧ p.length = min (z - S.image.length) 4096
    · rw [if_pos hb]
      refine Calls.mono (piece_ok hs (hid E0) hp hok.2.1 hb.1 hb.2 _ _ _ _ _ _ _ hJ) ?_
      rintro e W' ⟨he, hJ'⟩
      exact ⟨kept2_turn hJ'.kept (by simp), he, vc, vl, hJ'.1, hJ'.2.1, row_kept2 hS.2.1 hJ'.kept nb nk, row_kept2 hS.2.2 hJ'.kept mb mk⟩
    · rw [if_neg hb]
      refine Calls.mono (piece_bad hs (hid E0) hp hok.2.1 hok.2.2.1 hb _ _ _ _ _ _ _ hJ) ?_
      rintro e W' ⟨he, hJ'⟩
      exact ⟨kept2_turn hJ'.kept (by simp), he, _, rfl, hJ'.2.1⟩
  · obtain ⟨n0, st1, E0⟩ := pair_of (pNum s st)
    obtain ⟨n1, st2, E1⟩ := pair_of (pCount 5 s st1)
    obtain ⟨n2, st3, E2⟩ := pair_of (pNum s st2)
    have hm : rdKind 3 s st S z = some (⟨⟨n0, n1, n2⟩, S.log, S.image⟩, z, st3) := by
      unfold rdKind
      simp only [E0, E1, E2, if_true]
      rfl
    rw [hm]
    refine Calls.mono (vote_any hs (hid E0) (hid E1) (hid E2) _ _ _ _ _ _ _ _ _ hJ) ?_
    rintro e W' ⟨he, hJ'⟩
    exact ⟨kept2_turn hJ'.kept (by simp), he, vc, vl, hJ'.1, hJ'.2.1, row_kept2 hS.2.1 hJ'.kept nb nk, row_kept2 hS.2.2 hJ'.kept mb mk⟩
  · obtain ⟨i, st1, E0⟩ := pair_of (pNum s st)
    obtain ⟨t, st2, E1⟩ := pair_of (pNum s st1)
    obtain ⟨q, st3, E2⟩ := pair_of (pCount 3 s st2)
    obtain ⟨d, st4, E3⟩ := pair_of (pText 2048 s st3)
    have hi : i < top64 := by have := pNum_lt s st; rw [E0] at this; exact this
    have hd : d.length ≤ 2048 := by have := pText_le 2048 s st3; rw [E3] at this; exact this
    have hm : rdKind 4 s st S z = if mayEn ⟨t, q, d⟩ = true ∧ S.log.base < i ∧ i - S.log.base - 1 ≤ S.log.l.length then
        some (⟨S.hard, ⟨S.log.base, S.log.bterm, S.log.conf, S.log.l.take (i - S.log.base - 1) ++ [⟨t, q, d⟩]⟩, S.image⟩, z, st4) else none := by
      unfold rdKind
      simp only [E0, E1, E2, E3]
      rfl
    rw [hm]
    obtain ⟨al, cl, rfl⟩ := own_form hS.2.2
    have hnl : S.log.l.length ≤ 1000000000000 := Nat.le_trans hok.2.2.2 hn
    by_cases hb : mayEn ⟨t, q, d⟩ = true ∧ S.log.base < i ∧ i - S.log.base - 1 ≤ S.log.l.length
    · rw [if_pos hb]
      refine Calls.mono (entry_ok hs (hid E0) (hid E1) (hid E2) (hid E3) hi hd hok.1.2.2.2.1 hnl _ _ _ _ _ _ _ al cl rfl (by omega) hB.1 hB.2 hS.2.2 hb.1 hb.2.1 hb.2.2 hJ) ?_
      rintro e W' ⟨he, vl', hown, hR', hk', hT⟩
      refine ⟨hT, he, vc, vl', hR', hk', ?_, ?_⟩
      · exact ownsRow_of_block hS.2.1 fun r hr => hT.block (hS.2.1.lt r hr).2 (fun hm => by
          rcases List.mem_cons.1 hm with h | hm
          · exact nb (by rw [hr, h])
          · rcases List.mem_cons.1 hm with h | hm
            · exact nk (by rw [hr, h])
            · exact ml r hr hm)
      · have hle : (S.log.l.take (i - S.log.base - 1) ++ [(⟨t, q, d⟩ : En)]).length = i - S.log.base - 1 + 1 := by
          rw [List.length_append, List.length_take, List.length_singleton]
          have := hb.2.2
          omega
        simp only
        rw [hle]
        exact hown
    · rw [if_neg hb]
      refine Calls.mono (entry_bad hs (hid E0) (hid E1) (hid E2) (hid E3) hi hd hok.1.2.2.2.1 hnl _ _ _ _ _ _ _ al cl hb hJ) ?_
      rintro e W' ⟨he, hJ'⟩
      exact ⟨kept2_turn hJ'.kept (by simp), he, _, rfl, hJ'.2.1⟩
end Go.Proofs.YtmehcogaopackaaGreat
/- The walks of the disk's calls: Add, Put, Sync. -/
namespace Go.Proofs.YtmehcogaopackaaGreat
open Go.RowKit Go.Maps Go.WideMaps
set_option linter.unusedVariables false
set_option linter.unusedSimpArgs false
theorem blk_below {W W' : World} {k : Nat} {o : Obj} (h : W.heap[k]? = some o) (hb : Below W.heap.size W W') : W'.heap[k]? = some o := (hb.block k (Array.getElem?_eq_some_iff.1 h).1).trans h
theorem may_left {d : Ds} {n : Int} (h : d.may n = 0) (hok : d.ok) : d.fused = true → 1 ≤ d.left ∧ d.left ≤ 9223372036854775807 := by
  intro hf
  obtain ⟨_, _, _, h4, h5⟩ := hok
  refine ⟨?_, h5⟩
  unfold Ds.may Ds.off at h
  by_cases hl : d.left ≤ 0
  · rw [if_pos (by simp [hf, hl])] at h
    simp at h
  · omega
theorem After.below {W W1 W' : World} {p : Nat} {F : List Nat} {d : Ds} (hb : Below W.heap.size W W1) (h : After W1 p F d W') : After W p F d W' := h.trans (.below hb) (fun b h => .inl h)
set_option maxRecDepth 100000 in
set_option maxHeartbeats 2000000 in
theorem add_any {W : World} {p : Nat} {F : List Nat} {d : Ds} (h : DkAt W p F d) (hok : d.ok) (hpn : d.pend.length ≤ 1000000) (s : Bytes) (hs : s.length ≤ 1099511627776) :
    Calls Tryz.prog 47 #[.pointer (some ⟨p, 0, none⟩), .string { data := #[108, 111, 103] }, .string (str s)] W fun e w' => e = .returned (.int .i64 ((d.add s).2 : Nat)) ∧ After W p F (d.add s).1 w' := by
  have HW : Hid (Below W.heap.size W ((W.alloc (.cells #[.string { data := #[108, 111, 103] }] 9)).alloc (.cells #[.string (str s)] 9))) := ((Below.refl _ _).alloc (Nat.le_refl _) _).alloc (by simp) _
  have hn := blk_below (heap_alloc_new W (.cells #[.string { data := #[108, 111, 103] }] 9)) ((Below.refl _ _).alloc (Nat.le_refl _) (.cells #[.string (str s)] 9))
  have hq := heap_alloc_new (W.alloc (.cells #[.string { data := #[108, 111, 103] }] 9)) (.cells #[.string (str s)] 9)
  rw [World.size_alloc] at hq
  have H := hid (h.below HW.out)
  have hu : d.used ≤ 1099511627776 := by obtain ⟨h1, h2, _⟩ := hok; omega
  have hzs : (str s).size = s.length := str_size _
  have HM := hid (may_any H.out hu [108, 111, 103] (by simp) (by simp) (s.length : Int) (by omega) (by omega))
  have HL := hid (fun h0 => may_left (d := d) (n := s.length) h0 hok)
  have HN := hid hn
  have HQ := hid hq
  have hte : (str s).toList = s := by rw [ByteArray.toList_eq]; rfl
  have HA := hid (show d.add s = if d.may s.length ≠ 0 then (d, d.may s.length) else if s = [] then (d, 0) else (Ds.spend { d with seen := some (d.seen.getD [] ++ s), pend := d.pend ++ [⟨false, s⟩] }, 0) from rfl)
  clear h hn hq
  by_cases hm : d.may s.length = 0
  · rw [hm] at HM
    rw [if_neg (by simp [hm])] at HA
    have HLL := hid (HL.out hm)
    clear hm HL
    by_cases hse : s = []
    · rw [if_pos hse] at HA
      have hemp : (str s).toList.isEmpty = true := by rw [hte, hse]; rfl
      clear hse hte
      go_enter Tryz.func47, Tryz.ntmps47
      go_wp2_with fail
      refine Calls.mono HM.out ?_
      rintro e w1 ⟨rfl, hb1⟩
      have cq := cell_in (blk_below HQ.out hb1) 0 _ rfl
      have HB1 := hid (HW.out.trans (hb1.mono HW.out.size))
      have H1 := hid (H.out.below hb1)
      clear hb1
      go_wp2_with fail
      go_ret
      rw [HA.out]
      exact ⟨rfl, F, H1.out, fun _ h => .inl h, .below HB1.out⟩
    · rw [if_neg hse] at HA
      have hemp : (str s).toList.isEmpty = false := by rw [hte]; cases s with | nil => exact absurd rfl hse | cons => rfl
      clear hse hte
      go_enter Tryz.func47, Tryz.ntmps47
      go_wp2_with fail
      refine Calls.mono HM.out ?_
      rintro e w1 ⟨rfl, hb1⟩
      have cq := cell_in (blk_below HQ.out hb1) 0 _ rfl
      have HB1 := hid (HW.out.trans (hb1.mono HW.out.size))
      have H1 := hid (H.out.below hb1)
      have HT := hid (turn_add H1.out HLL.out hpn s hs (by show d.used ≤ _; exact hu) _ _ (blk_below HN.out hb1) (blk_below HQ.out hb1))
      clear hb1
      go_wp2_with fail
      refine Calls.mono HT.out ?_
      rintro e w2 ⟨rfl, F', hd', hF', ht'⟩
      go_wp2_with fail
      go_ret
      rw [HA.out]
      refine ⟨rfl, F', hd', fun b hb => ?_, (Turn.below HB1.out).trans ht' (fun b h => .inl h)⟩
      have := HB1.out.size
      rcases hF' b hb with h | h | h | h
      · exact .inl h
      · right; omega
      · right; omega
      · right; omega
  · rw [if_pos hm] at HA
    have hm1 : ((d.may s.length : Int) == 0) = false := by simpa using hm
    have hm2 : ((d.may s.length : Int) != 0) = true := by simpa using hm
    clear hm HL hte
    generalize d.may s.length = m at *
    go_enter Tryz.func47, Tryz.ntmps47
    go_wp2_with fail
    refine Calls.mono HM.out ?_
    rintro e w1 ⟨rfl, hb1⟩
    have HB1 := hid (HW.out.trans (hb1.mono HW.out.size))
    have H1 := hid (H.out.below hb1)
    clear hb1
    go_wp2_with fail
    go_ret
    rw [HA.out]
    exact ⟨rfl, F, H1.out, fun _ h => .inl h, .below HB1.out⟩
set_option maxRecDepth 100000 in
set_option maxHeartbeats 2000000 in
theorem put_any {W : World} {p : Nat} {F : List Nat} {d : Ds} (h : DkAt W p F d) (hok : d.ok) (hpn : d.pend.length ≤ 1000000) (s : Bytes) (hs : s.length ≤ 1099511627776) :
    Calls Tryz.prog 8 #[.pointer (some ⟨p, 0, none⟩), .string { data := #[108, 111, 103] }, .string (str s)] W fun e w' => e = .returned (.int .i64 ((d.puts s).2 : Nat)) ∧ After W p F (d.puts s).1 w' := by
  have HW : Hid (Below W.heap.size W ((W.alloc (.cells #[.string { data := #[108, 111, 103] }] 9)).alloc (.cells #[.string (str s)] 9))) := ((Below.refl _ _).alloc (Nat.le_refl _) _).alloc (by simp) _
  have hn := blk_below (heap_alloc_new W (.cells #[.string { data := #[108, 111, 103] }] 9)) ((Below.refl _ _).alloc (Nat.le_refl _) (.cells #[.string (str s)] 9))
  have hq := heap_alloc_new (W.alloc (.cells #[.string { data := #[108, 111, 103] }] 9)) (.cells #[.string (str s)] 9)
  rw [World.size_alloc] at hq
  have H := hid (h.below HW.out)
  have hu : d.used ≤ 1099511627776 := by obtain ⟨h1, h2, _⟩ := hok; omega
  have hu2 : lenO d.seen ≤ 1099511627776 := hu
  have hzs : (str s).size = s.length := str_size _
  have HM := hid (fun (W1 : World) (h1 : DkAt W1 p F d) => may_any h1 hu [108, 111, 103] (by simp) (by simp) ((s.length : Int) - (lenO d.seen : Int)) (by omega) (by omega))
  have HL := hid (fun h0 => may_left (d := d) (n := (s.length : Int) - (lenO d.seen : Int)) h0 hok)
  have HN := hid hn
  have HQ := hid hq
  have HA := hid (show d.puts s = if d.may ((s.length : Int) - lenO d.seen) ≠ 0 then (d, d.may ((s.length : Int) - lenO d.seen)) else (Ds.spend { d with seen := some s, pend := d.pend ++ [⟨true, s⟩] }, 0) from rfl)
  clear h hn
  generalize hW0 : (W.alloc (.cells #[.string { data := #[108, 111, 103] }] 9)).alloc (.cells #[.string (str s)] 9) = W0 at *
  have hlk : (Instr.lookup 73 (.map (some (H.out).choose)) (.string { data := #[108, 111, 103] }) false).run Tryz.prog W0.drew = .ok (.string (str (d.seen.getD []))) W0.drew := MapAt.look (W := W0.drew) (H.out).choose_spec.choose_spec.choose_spec.choose_spec.2.1
  have c1 : W0.drew.cell? ⟨p, 1, none⟩ = some (.map (some (H.out).choose)) := cell_in (w := W0.drew) (H.out).choose_spec.choose_spec.choose_spec.choose_spec.1 1 _ rfl
  generalize (H.out).choose = bs at hlk c1
  have cn : W0.drew.cell? ⟨W.heap.size, 0, none⟩ = some (.string { data := #[108, 111, 103] }) := cell_in (w := W0.drew) HN.out 0 _ rfl
  have cq := cell_in hq 0 _ rfl
  have hzo : (str (d.seen.getD [])).size = lenO d.seen := str_size _
  have hws : IntKind.i64.wrap ((s.length : Int) - (lenO d.seen : Int)) = (s.length : Int) - (lenO d.seen : Int) := IntWalk.i64_in _ (by omega)
  clear hq
  by_cases hm : d.may ((s.length : Int) - (lenO d.seen : Int)) = 0
  · rw [if_neg (by simp [hm])] at HA
    have HLL := hid (HL.out hm)
    rw [hm] at HM
    clear hm HL
    go_enter Tryz.func8, Tryz.ntmps8
    go_wp2_with fail
    go_region
    go_wp2_with fail
    refine Calls.mono (HM.out _ (by exact H.out.below ((Below.refl _ _).drew))) ?_
    rintro e w1 ⟨rfl, hb1⟩
    have hb1' : Below W0.heap.size W0 w1 := ⟨hb1.os, hb1.tape, hb1.output, hb1.size, hb1.block⟩
    have HB1 := hid (HW.out.trans (hb1'.mono HW.out.size))
    have H1 := hid (H.out.below hb1')
    have HT := hid (turn_put H1.out HLL.out hpn s hs _ _ (blk_below HN.out hb1') (blk_below HQ.out hb1'))
    clear hb1 hb1' hlk c1 cn cq hW0
    go_wp2_with fail
    refine Calls.mono HT.out ?_
    rintro e w2 ⟨rfl, F', hd', hF', ht'⟩
    go_wp2_with fail
    go_ret
    rw [HA.out]
    refine ⟨rfl, F', hd', fun b hb => ?_, (Turn.below HB1.out).trans ht' (fun b h => .inl h)⟩
    have := HB1.out.size
    rcases hF' b hb with h | h | h | h
    · exact .inl h
    · right; omega
    · right; omega
    · right; omega
  · rw [if_pos hm] at HA
    have hm1 : ((d.may ((s.length : Int) - (lenO d.seen : Int)) : Int) == 0) = false := by simpa using hm
    have hm2 : ((d.may ((s.length : Int) - (lenO d.seen : Int)) : Int) != 0) = true := by simpa using hm
    clear hm HL
    go_enter Tryz.func8, Tryz.ntmps8
    go_wp2_with fail
    go_region
    go_wp2_with fail
    refine Calls.mono (HM.out _ (by exact H.out.below ((Below.refl _ _).drew))) ?_
    rintro e w1 ⟨rfl, hb1⟩
    have hb1' : Below W0.heap.size W0 w1 := ⟨hb1.os, hb1.tape, hb1.output, hb1.size, hb1.block⟩
    have HB1 := hid (HW.out.trans (hb1'.mono HW.out.size))
    have H1 := hid (H.out.below hb1')
    clear hb1 hb1' hlk c1 cn cq hW0
    generalize d.may ((s.length : Int) - (lenO d.seen : Int)) = m at *
    go_wp2_with fail
    go_ret
    rw [HA.out]
    exact ⟨rfl, F, H1.out, fun _ h => .inl h, .below HB1.out⟩
theorem MapAt.of_owns {W : World} {b : Nat} {o : Option Bytes} (h : W.ownsMap Tryz.prog 9 (plainElem Tryz.prog 9) b 1 (DM o)) : MapAt W b o := h
set_option maxRecDepth 100000 in
set_option maxHeartbeats 2000000 in
theorem sync_any {W : World} {p : Nat} {F : List Nat} {d : Ds} (h : DkAt W p F d) (hok : d.ok) :
    Calls Tryz.prog 9 #[.pointer (some ⟨p, 0, none⟩)] W fun e w' => e = .returned (.int .i64 (d.sync.2 : Nat)) ∧ After W p F d.sync.1 w' := by
  have hu : d.used ≤ 1099511627776 := by obtain ⟨h1, h2, _⟩ := hok; omega
  have HM := hid (may_any h hu [45] (by simp) (by simp) 0 (by omega) (by omega))
  have HL := hid (fun h0 => may_left (d := d) (n := 0) h0 hok)
  have HA := hid (show d.sync = if d.may 0 ≠ 0 then (d, d.may 0) else (Ds.spend { d with lasts := d.seen, pend := [] }, 0) from rfl)
  have H := hid h
  clear h
  by_cases hm : d.may 0 = 0
  · rw [if_neg (by simp [hm])] at HA
    have HLL := hid (HL.out hm)
    rw [hm] at HM
    clear hm HL
    go_enter Tryz.func9, Tryz.ntmps9
    go_wp2_with fail
    refine Calls.mono HM.out ?_
    rintro e w1 ⟨rfl, hb1⟩
    have H1 := hid (H.out.below hb1)
    have HB1 := hid hb1
    clear hb1 H HM
    obtain ⟨bs, bl, vp, xs, h1, h2, h3, h4, h5, h6, h7, h8, h9, h10, h11⟩ := H1.out
    have c1 : w1.cell? ⟨p, 1, none⟩ = some (.map (some bs)) := cell_in h1 1 _ rfl
    have HC := hid (Tryz.maps_Clone 9 (plainElem Tryz.prog 9) bs 1 (DM d.seen) w1 h2)
    have hpl := h11 p h7
    have HH1 := hid h1
    have H11 := hid h11
    clear h1 h2 h3 h4 h5 h10 h11
    go_wp2_with fail
    refine Calls.mono HC.out ?_
    rintro e w2 ⟨rfl, hm2, hm3, hb2⟩
    have HH2 := hid (blk_below HH1.out hb2)
    have c2 := cell_in HH2.out 2 _ rfl
    have f2 := free_in HH2.out 2
    have c3 := cell_in HH2.out 3 _ rfl
    have f3 := free_in HH2.out 3
    have HM2 : Hid (MapAt w2 w1.heap.size d.seen) := hm2
    have HM3 : Hid (MapAt w2 bs d.seen) := hm3
    have HB2 := hid hb2
    clear hm2 hm3 hb2 HC
    have HDK : Hid (DkAt ((w2.setCell ⟨p, 2, none⟩ (.map (some w1.heap.size))).setCell ⟨p, 3, none⟩ (.slice none 0 0)) p (w1.heap.size :: F) { d with lasts := d.seen, pend := [] }) := by
      have h2 := H1.out.below HB2.out
      obtain ⟨bs', bl', vp', xs', g1, g2, g3, g4, g5, g6, g7, g8, g9, g10, g11⟩ := h2
      rw [HH2.out] at g1
      have e1 : bs = bs' := by have := Option.some.inj g1; simp [dkCells] at this; exact this.1
      have e2 : vp = vp' := by have := Option.some.inj g1; simp [dkCells] at this; exact this.2.2
      subst e1 e2
      have hsl : w1.heap.size < w2.heap.size := HM2.out.lt
      have hbsl : bs < w1.heap.size := H11.out bs h8
      have s1 : DkAt (w2.setCell ⟨p, 2, none⟩ (.map (some w1.heap.size))) p (w1.heap.size :: F) { d with lasts := d.seen } :=
        DkAt.mk_set HH2.out rfl HM3.out HM2.out g4 (PdsAt.turn (fun b hb => by simp [hb]) (fun _ _ _ _ => rfl) _ _ g5) (by omega) (by simp [h7]) (by simp [h8]) (by simp) (fun r hr => by simp [g10 r hr]) (fun b hb => by
          simp only [List.mem_cons] at hb
          rcases hb with rfl | hb
          · exact hsl
          · exact g11 b hb)
      obtain ⟨bs'', bl'', vp'', xs'', k1, k2, k3, k4, k5, k6, k7, k8, k9, k10, k11⟩ := s1
      exact DkAt.mk_set k1 rfl k2 k3 (World.ownsRow_nil _ _ _ _) rfl k6 k7 k8 k9 (fun r hr => by cases hr) k11
    have HTT : Hid (Turn F W ((w2.setCell ⟨p, 2, none⟩ (.map (some w1.heap.size))).setCell ⟨p, 3, none⟩ (.slice none 0 0))) :=
      (((Turn.below HB1.out).trans (Turn.below (F := F) HB2.out) (fun b h => .inl h)).trans (Turn.set _ p 2 _ h7) (fun b h => .inl h)).trans (Turn.set _ p 3 _ h7) (fun b h => .inl h)
    go_wp2_with fail
    refine Calls.mono (spend_any HDK.out HLL.out) ?_
    rintro e w4 ⟨rfl, hd4, ht4⟩
    go_wp2_with fail
    go_ret
    rw [HA.out]
    refine ⟨rfl, _, hd4, fun b hb => ?_, HTT.out.trans ht4 (by simp [h7])⟩
    simp only [List.mem_cons] at hb
    rcases hb with rfl | hb
    · exact .inr HB1.out.size
    · exact .inl hb
  · rw [if_pos hm] at HA
    have hm1 : ((d.may 0 : Int) == 0) = false := by simpa using hm
    have hm2 : ((d.may 0 : Int) != 0) = true := by simpa using hm
    clear hm HL
    generalize d.may 0 = m at *
    go_enter Tryz.func9, Tryz.ntmps9
    go_wp2_with fail
    refine Calls.mono HM.out ?_
    rintro e w1 ⟨rfl, hb1⟩
    have H1 := hid (H.out.below hb1)
    have HB1 := hid hb1
    clear hb1
    go_wp2_with fail
    go_ret
    rw [HA.out]
    exact ⟨rfl, F, H1.out, fun _ h => .inl h, .below HB1.out⟩
end Go.Proofs.YtmehcogaopackaaGreat
