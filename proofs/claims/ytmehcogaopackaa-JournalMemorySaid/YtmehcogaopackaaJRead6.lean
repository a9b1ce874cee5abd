/-
  The journal's reading of the bodies, as a model; the reading of one record, whatever its kind.
-/
import Derived.Test.YtmehcogaopackaaJRead5
import Derived.Test.YtmehcogaopackaaAll
namespace Go.Proofs.Ytmehcogaopackaa
open Go.RowKit
set_option linter.unusedVariables false
set_option linter.unusedSimpArgs false
def Js.zero : Js := ⟨⟨0, 0, 0⟩, ⟨0, 0, [], []⟩, []⟩
/-- what a record's reading makes of a state (z: how many bytes the image must have) and of the reader -/
def rdKind (k : Nat) (s : Bytes) (st : Nat × Nat) (S : Js) (z : Nat) : Option (Js × Nat × (Nat × Nat)) :=
  if k = 1 then
    let a := pNum s st; let b := pNum s a.2; let c := pCount 5 s b.2; let m := many (pCount 5 s) c.1 c.2; let e := pNum s m.2
    if baseOk a.1 m.1 e.1 = true then some (⟨⟨0, 0, 0⟩, ⟨a.1, b.1, natI m.1, []⟩, []⟩, e.1, e.2) else none
  else if k = 2 then
    let a := pText 4096 s st
    if S.image.length < z ∧ a.1.length = min (z - S.image.length) 4096 then some (⟨S.hard, S.log, S.image ++ a.1⟩, z, a.2) else none
  else if k = 3 then
    let a := pNum s st; let b := pCount 5 s a.2; let c := pNum s b.2
    some (⟨⟨a.1, b.1, c.1⟩, S.log, S.image⟩, z, c.2)
  else
    let a := pNum s st; let b := pNum s a.2; let c := pCount 3 s b.2; let d := pText 2048 s c.2
    if mayEn ⟨b.1, c.1, d.1⟩ = true ∧ S.log.base < a.1 ∧ a.1 - S.log.base - 1 ≤ S.log.l.length then
      some (⟨S.hard, ⟨S.log.base, S.log.bterm, S.log.conf, S.log.l.take (a.1 - S.log.base - 1) ++ [⟨b.1, c.1, d.1⟩]⟩, S.image⟩, z, d.2) else none
/-- what a body makes of a state; whether it is the first one -/
def rdStep (first : Bool) (s : Bytes) (P : Js × Nat) : Option (Js × Nat) :=
  let c := pCount 4 s (0, 0)
  if 0 < c.1 ∧ (decide (c.1 = 1) = first) ∧ (c.1 < 3 ∨ P.1.image.length = P.2) then
    (rdKind c.1 s c.2 P.1 P.2).bind fun r => if pEnd s r.2.2 = 0 then some (r.1, r.2.1) else none
  else none
def rdGo : Bool → Js × Nat → List Bytes → Option (Js × Nat)
  | _, P, [] => some P
  | f, P, s :: r => (rdStep f s P).bind fun P' => rdGo false P' r
/-- what read makes of the bodies -/
def rd (xs : List Bytes) : Option Js := if xs = [] then none else (rdGo true (Js.zero, 0) xs).bind fun P => if P.1.image.length = P.2 then some P.1 else none
/-- a state whose parts are as they may be -/
def JsOk (S : Js) : Prop := S.hard.term < top64 ∧ (0 ≤ S.hard.vote ∧ S.hard.vote ≤ 5) ∧ S.hard.life < top64 ∧ S.log.base ≤ 4611686018427387904 ∧ S.log.bterm < top64 ∧ members S.log.conf = true ∧ (∀ e ∈ S.log.l, e.term < top64 ∧ mayEn e = true) ∧ S.image.length ≤ 262144
theorem JsOk.zero : JsOk Js.zero := by
  refine ⟨by decide, ⟨by decide, by decide⟩, by decide, by decide, by decide, by decide, by simp [Js.zero], by decide⟩
/-- where a reading stands, as it may be -/
def RdOk (S : Js) (z : Nat) (n : Nat) : Prop := JsOk S ∧ z ≤ 262144 ∧ S.image.length ≤ z ∧ S.log.l.length ≤ n
theorem rdKind_ok {k : Nat} {s : Bytes} {st : Nat × Nat} {S : Js} {z n : Nat} {r : Js × Nat × (Nat × Nat)} (h : rdKind k s st S z = some r) (hk : RdOk S z n) : RdOk r.1 r.2.1 (n + 1) := by
  obtain ⟨⟨h1, h2, h3, h4, h5, h6, h7, h8⟩, hz, hi, hn⟩ := hk
  unfold rdKind at h
  split at h
  · simp only at h
    split at h
    · rename_i hb
      simp only [Option.some.injEq] at h
      subst h
      unfold baseOk at hb
      simp only [Bool.and_eq_true, decide_eq_true_eq] at hb
      exact ⟨⟨show (0 : Nat) < top64 by decide, ⟨show (0 : Int) ≤ 0 by decide, show (0 : Int) ≤ 5 by decide⟩, show (0 : Nat) < top64 by decide, hb.2.1, pNum_lt _ _, hb.1, by simp, by simp⟩, hb.2.2, by simp, by simp⟩
    · cases h
  · split at h
    · simp only at h
      split at h
      · rename_i hb
        simp only [Option.some.injEq] at h
        subst h
        have hl := hb.2
        refine ⟨⟨h1, h2, h3, h4, h5, h6, h7, ?_⟩, hz, ?_, by simp only; omega⟩ <;> simp only [List.length_append] <;> omega
      · cases h
    · split at h
      · simp only [Option.some.injEq] at h
        subst h
        exact ⟨⟨pNum_lt _ _, ⟨by simp only; omega, by have := pCount_le 5 s (pNum s st).2; simp only; omega⟩, pNum_lt _ _, h4, h5, h6, h7, h8⟩, hz, hi, by simp only; omega⟩
      · simp only at h
        split at h
        · rename_i hb
          simp only [Option.some.injEq] at h
          subst h
          refine ⟨⟨h1, h2, h3, h4, h5, h6, ?_, h8⟩, hz, hi, ?_⟩
          · intro e he
            simp only [List.mem_append, List.mem_singleton] at he
            rcases he with he | rfl
            · exact h7 e (List.mem_of_mem_take he)
            · exact ⟨pNum_lt _ _, hb.1⟩
          · simp only [List.length_append, List.length_take, List.length_singleton]
            omega
        · cases h
theorem rdStep_ok {f : Bool} {s : Bytes} {S : Js} {z n : Nat} {r : Js × Nat} (h : rdStep f s (S, z) = some r) (hk : RdOk S z n) : RdOk r.1 r.2 (n + 1) := by
  unfold rdStep at h
  simp only at h
  split at h
  · obtain ⟨r', hr, h⟩ := Option.bind_eq_some_iff.1 h
    split at h
    · simp only [Option.some.injEq] at h
      subst h
      exact rdKind_ok hr hk
    · cases h
  · cases h
theorem rdGo_ok : ∀ (xs : List Bytes) (f : Bool) (S : Js) (z n : Nat) (r : Js × Nat), rdGo f (S, z) xs = some r → RdOk S z n → RdOk r.1 r.2 (n + xs.length)
  | [], f, S, z, n, r, h, hk => by
    simp only [rdGo, Option.some.injEq] at h
    subst h
    exact hk
  | s :: xs, f, S, z, n, r, h, hk => by
    unfold rdGo at h
    obtain ⟨P', hP, h⟩ := Option.bind_eq_some_iff.1 h
    have := rdGo_ok xs false P'.1 P'.2 (n + 1) r h (rdStep_ok hP hk)
    rw [List.length_cons]
    rw [show n + 1 + xs.length = n + (xs.length + 1) by omega] at this
    exact this
theorem rd_ok {xs : List Bytes} {S : Js} (h : rd xs = some S) : JsOk S ∧ S.log.l.length ≤ xs.length := by
  unfold rd at h
  split at h
  · cases h
  · obtain ⟨P, hP, h⟩ := Option.bind_eq_some_iff.1 h
    split at h
    · simp only [Option.some.injEq] at h
      subst h
      have := rdGo_ok xs true Js.zero 0 0 P hP ⟨JsOk.zero, by omega, by decide, by decide⟩
      exact ⟨this.1, by have := this.2.2.2; omega⟩
    · cases h
/-- a state that lies in block k, its slices in blocks from B on -/
def StAt (W : World) (k B : Nat) (S : Js) (z : Nat) (vc vl : Value) : Prop :=
  W.heap[k]? = some (.cells (stCells S z vc vl) 63) ∧ W.ownsRow B 3 1 vc S.log.conf.length (intVals S.log.conf) ∧ W.ownsRow B 50 3 vl S.log.l.length (enVals S.log.l)
def kindFn : Nat → FuncId
  | 1 => 54
  | 2 => 55
  | 3 => 56
  | _ => 57
/-- how a record's reading ends -/
def KindPost (r : Option (Js × Nat × (Nat × Nat))) (s : Bytes) (b k B : Nat) (e : Ending) (W' : World) : Prop :=
  match r with
  | some r => e = .returned (.tuple #[]) ∧ ∃ vc' vl', RS W' b s r.2.2 ∧ StAt W' k B r.1 r.2.1 vc' vl'
  | none => e = .panicked fault ∧ ∃ cs' : Array Value, cs'.size = 9 ∧ W'.heap[k]? = some (.cells cs' 63)
theorem kept2_turn {b k : Nat} {F : List Nat} {W W' : World} (h : Kept2 b k W W') (hF : b ∈ F ∧ k ∈ F) : Turn F W W' :=
  ⟨h.1, h.2.1, h.2.2.1, h.2.2.2.1, fun j hj hn => h.2.2.2.2 j hj (fun e => hn (e ▸ hF.1)) (fun e => hn (e ▸ hF.2))⟩
theorem row_kept2 {b k B : Nat} {W W' : World} {e : TypeId} {sz : Nat} {v : Value} {n : Nat} {xs : List Value} (h : W.ownsRow B e sz v n xs) (hk : Kept2 b k W W') (h1 : some b ≠ v.ownBlock) (h2 : some k ≠ v.ownBlock) : W'.ownsRow B e sz v n xs :=
  ownsRow_of_block h fun r hr => hk.2.2.2.2 r (h.lt r hr).2 (fun e => h1 (by rw [hr, e])) (fun e => h2 (by rw [hr, e]))
theorem stCells_size (S : Js) (z : Nat) (vc vl : Value) : (stCells S z vc vl).size = 9 := rfl
theorem pair_of {α β : Type} (p : α × β) : ∃ a b, p = (a, b) := ⟨p.1, p.2, rfl⟩
theorem kind_any {s : Bytes} {b k B : Nat} {W : World} {st : Nat × Nat} {S : Js} {z n : Nat} {vc vl : Value} (hs : s.length ≤ 1152921504606846976) (kd : Nat) (hk1 : 1 ≤ kd) (hk4 : kd ≤ 4) (hR : RS W b s st) (hS : StAt W k B S z vc vl) (hbk : b ≠ k) (hB : B ≤ b ∧ B ≤ k)
    (hok : RdOk S z n) (hn : n ≤ 1000000000000) :
    Calls Try.prog (kindFn kd) #[.pointer (some ⟨k, 0, none⟩), .pointer (some ⟨b, 0, none⟩)] W fun e W' => Turn (b :: k :: ownL vl) W W' ∧ KindPost (rdKind kd s st S z) s b k B e W' := by
  have hJ : JR s b k 63 W (stCells S z vc vl) st W := ⟨hR, hS.1, Kept2.refl _ _ _, hbk⟩
  have hkl := hJ.lt
  have nb : some b ≠ vc.ownBlock := own_ne hS.2.1 hR.1 (fun cur e => by cases e)
  have nk : some k ≠ vc.ownBlock := own_ne hS.2.1 hS.1 (fun cur e => by cases e)
  have mb : some b ≠ vl.ownBlock := own_ne hS.2.2 hR.1 (fun cur e => by cases e)
  have mk : some k ≠ vl.ownBlock := own_ne hS.2.2 hS.1 (fun cur e => by cases e)
  have ml : ∀ r, vc.ownBlock = some r → r ∉ ownL vl := fun r hr hm => by
    have h1 := mem_ownL.1 hm
    rcases hS.2.1.2 with ⟨e0, _⟩ | ⟨g, cap, cur, e0, _, hg, _⟩
    · rw [e0] at hr; cases hr
    · rw [e0] at hr
      simp only [Value.ownBlock, Option.some.injEq] at hr
      subst hr
      exact own_ne hS.2.2 hg (fun cur e => by cases e) h1.symm
  rcases (show kd = 1 ∨ kd = 2 ∨ kd = 3 ∨ kd = 4 by omega) with rfl | rfl | rfl | rfl
  · obtain ⟨n0, st1, E0⟩ := pair_of (pNum s st)
    obtain ⟨n1, st2, E1⟩ := pair_of (pNum s st1)
    obtain ⟨nc, st3, E2⟩ := pair_of (pCount 5 s st2)
    obtain ⟨lc, st4, E3⟩ := pair_of (many (pCount 5 s) nc st3)
    obtain ⟨zz, st5, E4⟩ := pair_of (pNum s st4)
    have hm : rdKind 1 s st S z = if baseOk n0 lc zz = true then some (⟨⟨0, 0, 0⟩, ⟨n0, n1, natI lc, []⟩, []⟩, zz, st5) else none := by
      unfold rdKind
      simp only [E0, E1, E2, E3, E4, if_true]
    rw [hm]
    refine Calls.mono (base_any hs (hid E0) (hid E1) (hid E2) (hid E3) (hid E4) _ (stCells_size _ _ _ _) hJ) ?_
    rintro e W' ⟨hsaid, vc', hown, hJ'⟩
    refine ⟨kept2_turn hJ'.kept (by simp), ?_⟩
    by_cases hb : baseOk n0 lc zz = true
    · rw [if_pos hb]
      rw [hb] at hsaid
      refine ⟨hsaid, vc', .slice none 0 0, hJ'.1, hJ'.2.1, ?_, World.ownsRow_nil _ _ _ _⟩
      simp only
      rw [show (natI lc).length = lc.length by simp [natI]]
      exact ownsRow_mono hown (by omega)
    · rw [if_neg hb]
      rw [Bool.not_eq_true] at hb
      rw [hb] at hsaid
      exact ⟨hsaid, _, rfl, hJ'.2.1⟩
  · obtain ⟨p, st1, E0⟩ := pair_of (pText 4096 s st)
    have hp : p.length ≤ 4096 := by have := pText_le 4096 s st; rw [E0] at this; exact this
    have hm : rdKind 2 s st S z = if S.image.length < z ∧ p.length = min (z - S.image.length) 4096 then some (⟨S.hard, S.log, S.image ++ p⟩, z, st1) else none := by
      unfold rdKind
      simp only [E0, if_true]
      rfl
    rw [hm]
    by_cases hb : S.image.length < z ∧ p.length = min (z - S.image.length) 4096
    · rw [if_pos hb]
      refine Calls.mono (piece_ok hs (hid E0) hp hok.2.1 hb.1 hb.2 _ _ _ _ _ _ _ hJ) ?_
      rintro e W' ⟨he, hJ'⟩
      exact ⟨kept2_turn hJ'.kept (by simp), he, vc, vl, hJ'.1, hJ'.2.1, row_kept2 hS.2.1 hJ'.kept nb nk, row_kept2 hS.2.2 hJ'.kept mb mk⟩
    · rw [if_neg hb]
      refine Calls.mono (piece_bad hs (hid E0) hp hok.2.1 hok.2.2.1 hb _ _ _ _ _ _ _ hJ) ?_
      rintro e W' ⟨he, hJ'⟩
      exact ⟨kept2_turn hJ'.kept (by simp), he, _, rfl, hJ'.2.1⟩
  · obtain ⟨n0, st1, E0⟩ := pair_of (pNum s st)
    obtain ⟨n1, st2, E1⟩ := pair_of (pCount 5 s st1)
    obtain ⟨n2, st3, E2⟩ := pair_of (pNum s st2)
    have hm : rdKind 3 s st S z = some (⟨⟨n0, n1, n2⟩, S.log, S.image⟩, z, st3) := by
      unfold rdKind
      simp only [E0, E1, E2, if_true]
      rfl
    rw [hm]
    refine Calls.mono (vote_any hs (hid E0) (hid E1) (hid E2) _ _ _ _ _ _ _ _ _ hJ) ?_
    rintro e W' ⟨he, hJ'⟩
    exact ⟨kept2_turn hJ'.kept (by simp), he, vc, vl, hJ'.1, hJ'.2.1, row_kept2 hS.2.1 hJ'.kept nb nk, row_kept2 hS.2.2 hJ'.kept mb mk⟩
  · obtain ⟨i, st1, E0⟩ := pair_of (pNum s st)
    obtain ⟨t, st2, E1⟩ := pair_of (pNum s st1)
    obtain ⟨q, st3, E2⟩ := pair_of (pCount 3 s st2)
    obtain ⟨d, st4, E3⟩ := pair_of (pText 2048 s st3)
    have hi : i < top64 := by have := pNum_lt s st; rw [E0] at this; exact this
    have hd : d.length ≤ 2048 := by have := pText_le 2048 s st3; rw [E3] at this; exact this
    have hm : rdKind 4 s st S z = if mayEn ⟨t, q, d⟩ = true ∧ S.log.base < i ∧ i - S.log.base - 1 ≤ S.log.l.length then
        some (⟨S.hard, ⟨S.log.base, S.log.bterm, S.log.conf, S.log.l.take (i - S.log.base - 1) ++ [⟨t, q, d⟩]⟩, S.image⟩, z, st4) else none := by
      unfold rdKind
      simp only [E0, E1, E2, E3]
      rfl
    rw [hm]
    obtain ⟨al, cl, rfl⟩ := own_form hS.2.2
    have hnl : S.log.l.length ≤ 1000000000000 := Nat.le_trans hok.2.2.2 hn
    by_cases hb : mayEn ⟨t, q, d⟩ = true ∧ S.log.base < i ∧ i - S.log.base - 1 ≤ S.log.l.length
    · rw [if_pos hb]
      refine Calls.mono (entry_ok hs (hid E0) (hid E1) (hid E2) (hid E3) hi hd hok.1.2.2.2.1 hnl _ _ _ _ _ _ _ al cl rfl (by omega) hB.1 hB.2 hS.2.2 hb.1 hb.2.1 hb.2.2 hJ) ?_
      rintro e W' ⟨he, vl', hown, hR', hk', hT⟩
      refine ⟨hT, he, vc, vl', hR', hk', ?_, ?_⟩
      · exact ownsRow_of_block hS.2.1 fun r hr => hT.block (hS.2.1.lt r hr).2 (fun hm => by
          rcases List.mem_cons.1 hm with h | hm
          · exact nb (by rw [hr, h])
          · rcases List.mem_cons.1 hm with h | hm
            · exact nk (by rw [hr, h])
            · exact ml r hr hm)
      · have hle : (S.log.l.take (i - S.log.base - 1) ++ [(⟨t, q, d⟩ : En)]).length = i - S.log.base - 1 + 1 := by
          rw [List.length_append, List.length_take, List.length_singleton]
          have := hb.2.2
          omega
        simp only
        rw [hle]
        exact hown
    · rw [if_neg hb]
      refine Calls.mono (entry_bad hs (hid E0) (hid E1) (hid E2) (hid E3) hi hd hok.1.2.2.2.1 hnl _ _ _ _ _ _ _ al cl hb hJ) ?_
      rintro e W' ⟨he, hJ'⟩
      exact ⟨kept2_turn hJ'.kept (by simp), he, _, rfl, hJ'.2.1⟩
end Go.Proofs.Ytmehcogaopackaa
