/-
  The reference's Read: what a record makes of a state before its end is asked for; the state's block with its slices. (Several texts in one.)
-/
import Derived.Test.YtmehcogaopackaaGreatGC
import Derived.Test.YtmehcogaopackaaGreatGH
import Derived.Test.YtmehcogaopackaaGreatZApp
import Derived.Test.YtmehcogaopackaaGreatJRead7
/- The reference's reader: End; a number against a bounded number; the reader beside a variable. -/
namespace Go.Proofs.YtmehcogaopackaaGreat
open Go.RowKit
set_option linter.unusedVariables false
set_option linter.unusedSimpArgs false
theorem only_drewN (b : Nat) (w : World) (n : Nat) : Only b w (w.drewN n) := ⟨rfl, rfl, rfl, Nat.le_refl _, fun _ _ _ => rfl⟩
theorem only_of_drewN {b : Nat} {w w' : World} {n : Nat} (h : Only b (w.drewN n) w') : Only b w w' := ⟨h.os, h.tape, h.output, h.size, h.block⟩
set_option maxHeartbeats 1000000 in
theorem rrEnd {s : Bytes} {st : Nat × Nat} {b : Nat} {w : World} (h : RR w b s st) :
    Calls Tryz.prog 123 #[.pointer (some ⟨b, 0, none⟩)] w fun x w' => x = .returned (.int .i64 (pEnd s st : Int)) ∧ Only b w w' := by
  obtain ⟨pl, hb, ht⟩ := h
  obtain ⟨t, e⟩ := st
  simp only at hb ht
  have hz : (str s).size = s.length := str_size _
  have e0 : w.cell? ⟨b, 0, none⟩ = some (.string (str s)) := cell_in hb 0 _ rfl
  have e1 : w.cell? ⟨b, 1, none⟩ = some (.int .i64 (t : Int)) := cell_in hb 1 _ rfl
  have e2 : w.cell? ⟨b, 2, none⟩ = some (.int .i64 (e : Int)) := cell_in hb 2 _ rfl
  have HB := hid hb
  clear hb
  by_cases he : e = 0
  · subst he
    by_cases hlt : t < s.length
    · have hE := hid (show pEnd s (t, 0) = 9 by unfold pEnd; rw [if_pos ⟨rfl, hlt⟩])
      have hti : decide ((t : Int) < (s.length : Int)) = true := decide_eq_true (by omega)
      have hti2 : (t : Int) < (s.length : Int) := by omega
      go_enter Tryz.func123, Tryz.ntmps123
      go_wp2_with fail
      go_quiet (fail)
      go_wp2_with fail
      refine Calls.mono (rfail_any s t 0 9 pl b _ (by exact HB.out)) ?_
      rintro e w2 ⟨rfl, hk2, ho2⟩
      have c2 := cell_in hk2 2 (.int .i64 ((9 : Nat) : Int)) rfl
      have HO2 := hid ho2
      clear ho2 e0 e1 e2
      go_wp2_with fail
      go_ret
      rw [hE.out]
      exact ⟨rfl, only_of_drewN HO2.out⟩
    · have hE := hid (show pEnd s (t, 0) = 0 by unfold pEnd; rw [if_neg (by rintro ⟨_, h⟩; exact hlt h)])
      have hti : decide ((t : Int) < (s.length : Int)) = false := decide_eq_false (by omega)
      go_enter Tryz.func123, Tryz.ntmps123
      go_wp2_with fail
      go_quiet (fail)
      go_wp2_with fail
      go_ret
      rw [hE.out]
      exact ⟨rfl, only_drewN b w _⟩
  · have hE := hid (show pEnd s (t, e) = e by unfold pEnd; rw [if_neg (by rintro ⟨h, _⟩; exact he h)])
    have hei : ((e : Int) == 0) = false := by simp only [beq_eq_false_iff_ne, ne_eq]; omega
    have hei2 : decide ((e : Int) = 0) = false := decide_eq_false (by omega)
    go_enter Tryz.func123, Tryz.ntmps123
    go_wp2_with fail
    go_quiet (fail)
    go_wp2_with fail
    go_ret
    rw [hE.out]
    exact ⟨rfl, only_drewN b w _⟩
/-- a number that is small enough is the bounded one -/
theorem count_of_num {s : Bytes} {st : Nat × Nat} {m : Nat} (h1 : 1 ≤ (pNum s st).1) (h2 : (pNum s st).1 ≤ m) : pCount m s st = pNum s st := by
  obtain ⟨t, e⟩ := st
  unfold pNum pCount bnd at *
  simp only at *
  by_cases he : e ≠ 0
  · rw [if_pos he] at h1
    simp at h1
  · rw [if_neg he] at h1 h2 ⊢
    rw [if_neg he]
    generalize scan0 (s.drop t) = q at *
    obtain ⟨n, z, er⟩ := q
    simp only at *
    by_cases hr : er ≠ 0
    · rw [if_pos hr] at h1
      simp at h1
    · rw [if_neg hr] at h1 h2 ⊢
      rw [if_neg hr]
      by_cases hm : 18446744073709551615 < n
      · rw [if_pos hm] at h1
        simp at h1
      · rw [if_neg hm] at h1 h2 ⊢
        simp only [Bool.false_and, Bool.false_eq_true, if_false] at h1 h2 ⊢
        rw [if_neg (by omega)]
theorem count_no {s : Bytes} {st : Nat × Nat} {m : Nat} (hm : m ≤ 18446744073709551615) (h : (pNum s st).1 = 0 ∨ m < (pNum s st).1) : (pCount m s st).1 = 0 := by
  obtain ⟨t, e⟩ := st
  unfold pNum pCount bnd at *
  simp only at *
  by_cases he : e ≠ 0
  · rw [if_pos he]
  · rw [if_neg he] at h ⊢
    generalize scan0 (s.drop t) = q at *
    obtain ⟨n, z, er⟩ := q
    simp only at *
    by_cases hr : er ≠ 0
    · rw [if_pos hr]
    · rw [if_neg hr] at h ⊢
      by_cases h9 : 18446744073709551615 < n
      · rw [if_pos (by omega)]
      · rw [if_neg h9] at h
        simp only [Bool.false_and, Bool.false_eq_true, if_false] at h ⊢
        by_cases hmn : m < n
        · rw [if_pos hmn]
        · rw [if_neg hmn]
          simp only
          omega
/-- the reader in block b, the variable in block k, and that the rest is as it was in w0 -/
def JQ (s : Bytes) (b k : Nat) (t : TypeId) (w0 : World) (cs : Array Value) (st : Nat × Nat) (W : World) : Prop := RR W b s st ∧ W.heap[k]? = some (.cells cs t) ∧ Kept2 b k w0 W ∧ b ≠ k
theorem JQ.blk {s b k t w0 cs st W} (h : JQ s b k t w0 cs st W) : W.heap[k]? = some (.cells cs t) := h.2.1
theorem JQ.lt {s b k t w0 cs st W} (h : JQ s b k t w0 cs st W) : k < W.heap.size := (Array.getElem?_eq_some_iff.1 h.2.1).1
theorem JQ.at {s b k t w0 cs st W} (h : JQ s b k t w0 cs st W) (o : Nat) (v : Value) (hv : cs[o]? = some v) : W.cell? ⟨k, o, none⟩ = some v := cell_in h.2.1 o v hv
theorem JQ.free {s b k t w0 cs st W} (h : JQ s b k t w0 cs st W) (o : Nat) : W.frozen? ⟨k, o, none⟩ = false := free_in h.2.1 o
theorem JQ.only {s b k t w0 cs st st' W W'} (h : JQ s b k t w0 cs st W) (ho : Only b W W') (hr : RR W' b s st') : JQ s b k t w0 cs st' W' :=
  ⟨hr, (ho.block k h.lt (fun e => h.2.2.2 (by cases e; rfl))).trans h.2.1, h.2.2.1.trans (.only ho), h.2.2.2⟩
theorem JQ.set {s b k t w0 cs st W} (h : JQ s b k t w0 cs st W) (o : Nat) (v : Value) : JQ s b k t w0 (cs.setIfInBounds o v) st (W.setCell ⟨k, o, none⟩ v) := by
  obtain ⟨⟨pl, h1, h2⟩, h3, h4, h5⟩ := h
  exact ⟨⟨pl, (Below.heap_setCell _ _ _ _ h5).trans h1, h2⟩, heap_set h3 o v, h4.set o v, h5⟩
theorem blk_alloc' {W : World} {k : Nat} {o : Obj} (h : W.heap[k]? = some o) (o' : Obj) : (W.alloc o').heap[k]? = some o := (heap_alloc_old _ _ (Array.getElem?_eq_some_iff.1 h).1).trans h
theorem blk_below' {W W' : World} {k : Nat} {o : Obj} (h : W.heap[k]? = some o) (hb : Below W.heap.size W W') : W'.heap[k]? = some o := (hb.block k (Array.getElem?_eq_some_iff.1 h).1).trans h
theorem JQ.below {s b k t w0 cs st W W'} (h : JQ s b k t w0 cs st W) (hb : Below W.heap.size W W') : JQ s b k t w0 cs st W' := by
  obtain ⟨⟨pl, h1, h2⟩, h3, h4, h5⟩ := h
  exact ⟨⟨pl, blk_below' h1 hb, h2⟩, blk_below' h3 hb, h4.trans (.below hb), h5⟩
theorem jqNum {s : Bytes} {b k : Nat} {t : TypeId} {w0 W : World} {cs : Array Value} {st st' : Nat × Nat} {n : Nat} (hs : s.length ≤ 1152921504606846976) (E : pNum s st = (n, st')) (h : JQ s b k t w0 cs st W) :
    Calls Tryz.prog 120 #[.pointer (some ⟨b, 0, none⟩)] W fun x W' => x = .returned (.int .u64 (n : Int)) ∧ JQ s b k t w0 cs st' W' ∧ Only b W W' :=
  (rrNum h.1 hs).mono fun _ _ ⟨e, hr, ho⟩ => by rw [E] at e hr; exact ⟨e, h.only ho hr, ho⟩
theorem jqCount {m : Nat} (hm : m ≤ 1000000000) {s : Bytes} {b k : Nat} {t : TypeId} {w0 W : World} {cs : Array Value} {st st' : Nat × Nat} {n : Nat} (hs : s.length ≤ 1152921504606846976) (E : pCount m s st = (n, st')) (h : JQ s b k t w0 cs st W) :
    Calls Tryz.prog 121 #[.pointer (some ⟨b, 0, none⟩), .int .i64 (m : Int)] W fun x W' => x = .returned (.int .i64 (n : Int)) ∧ JQ s b k t w0 cs st' W' ∧ Only b W W' :=
  (rrCount m hm h.1 hs).mono fun _ _ ⟨e, hr, ho⟩ => by rw [E] at e hr; exact ⟨e, h.only ho hr, ho⟩
theorem jqText {m : Nat} (hm : m ≤ 1000000000) {s x : Bytes} {b k : Nat} {t : TypeId} {w0 W : World} {cs : Array Value} {st st' : Nat × Nat} (hs : s.length ≤ 1152921504606846976) (E : pText m s st = (x, st')) (h : JQ s b k t w0 cs st W) :
    Calls Tryz.prog 122 #[.pointer (some ⟨b, 0, none⟩), .int .i64 (m : Int)] W fun e W' => e = .returned (.string (str x)) ∧ JQ s b k t w0 cs st' W' ∧ Only b W W' :=
  (rrText m hm h.1 hs).mono fun _ _ ⟨e, hr, ho⟩ => by rw [E] at e hr; exact ⟨e, h.only ho hr, ho⟩
theorem JQ.other {s b k t w0 cs st W} (h : JQ s b k t w0 cs st W) {g : Nat} (h1 : g ≠ b) (h2 : g ≠ k) (h3 : w0.heap.size ≤ g) (o : Nat) (v : Value) : JQ s b k t w0 cs st (W.setCell ⟨g, o, none⟩ v) := by
  obtain ⟨⟨pl, g1, g2⟩, g3, g4, g5⟩ := h
  exact ⟨⟨pl, (Below.heap_setCell _ _ _ _ (Ne.symm h1)).trans g1, g2⟩, (Below.heap_setCell _ _ _ _ (Ne.symm h2)).trans g3,
    g4.trans' ⟨rfl, rfl, rfl, by simp [World.setCell], fun j hj => Below.heap_setCell _ _ _ _ (by show j ≠ g; omega)⟩, g5⟩
theorem JQ.grown {s b k t w0 cs st W W'} {row : Option Nat} (h : JQ s b k t w0 cs st W) (hg : W.grownBy W' row) (h1 : row ≠ some b) (h2 : row ≠ some k) (h3 : ∀ j, row = some j → w0.heap.size ≤ j) : JQ s b k t w0 cs st W' := by
  obtain ⟨⟨pl, g1, g2⟩, g3, g4, g5⟩ := h
  exact ⟨⟨pl, (hg.block b (Array.getElem?_eq_some_iff.1 g1).1 (fun e => h1 e.symm)).trans g1, g2⟩, (hg.block k (Array.getElem?_eq_some_iff.1 g3).1 (fun e => h2 e.symm)).trans g3,
    g4.trans' ⟨hg.os, hg.tape, hg.output, hg.size, fun j hj => hg.block j (Nat.lt_of_lt_of_le hj g4.2.2.2.1) (fun e => by have := h3 j e.symm; omega)⟩, g5⟩
theorem JQ.drewN {s : Bytes} {b k : Nat} {t : TypeId} {w0 : World} {cs : Array Value} {st : Nat × Nat} {W : World} (h : JQ s b k t w0 cs st W) (n : Nat) : JQ s b k t w0 cs st (W.drewN n) := h
theorem JQ.ends {s : Bytes} {b k : Nat} {t : TypeId} {w0 : World} {cs : Array Value} {st : Nat × Nat} {W : World} (h : JQ s b k t w0 cs st W) :
    Calls Tryz.prog 123 #[.pointer (some ⟨b, 0, none⟩)] W fun x W' => x = .returned (.int .i64 (pEnd s st : Int)) ∧ W'.heap[k]? = some (.cells cs t) ∧ Kept2 b k w0 W' :=
  (rrEnd h.1).mono fun _ _ ⟨e, ho⟩ => ⟨e, (ho.block k h.lt (fun e => h.2.2.2 (by cases e; rfl))).trans h.2.1, h.2.2.1.trans (.only ho)⟩
end Go.Proofs.YtmehcogaopackaaGreat
/- The reference's Read: what a record makes of a state before its end is asked for; the state's block with its slices. -/
namespace Go.Proofs.YtmehcogaopackaaGreat
open Go.RowKit
set_option linter.unusedVariables false
set_option linter.unusedSimpArgs false
/-- the record that is read, its end not yet asked for -/
def rdMid (f : Bool) (s : Bytes) (S : Js) (z : Nat) : Option (Js × Nat × (Nat × Nat)) :=
  if 0 < (pCount 4 s (0, 0)).1 ∧ (decide ((pCount 4 s (0, 0)).1 = 1) = f) ∧ ((pCount 4 s (0, 0)).1 < 3 ∨ S.image.length = z) then rdKind (pCount 4 s (0, 0)).1 s (pCount 4 s (0, 0)).2 S z else none
theorem rdStep_mid (f : Bool) (s : Bytes) (S : Js) (z : Nat) : rdStep f s (S, z) = (rdMid f s S z).bind fun r => if pEnd s r.2.2 = 0 then some (r.1, r.2.1) else none := by
  unfold rdStep rdMid
  simp only
  split <;> rfl
theorem mid_of {f : Bool} {s : Bytes} {S : Js} {z n : Nat} {st1 : Nat × Nat} (E : pNum s (0, 0) = (n, st1)) :
    rdMid f s S z = if (1 ≤ n ∧ n ≤ 4) ∧ (decide (n = 1) = f) ∧ (n < 3 ∨ S.image.length = z) then rdKind n s st1 S z else none := by
  unfold rdMid
  by_cases h : 1 ≤ n ∧ n ≤ 4
  · rw [count_of_num (m := 4) (by rw [E]; exact h.1) (by rw [E]; exact h.2), E]
    have h0 : 0 < n := h.1
    simp only [h, h0, true_and, and_self]
  · have h0 := count_no (m := 4) (s := s) (st := (0, 0)) (by decide) (by rw [E]; simp only; omega)
    have h1 : ¬ (0 < (pCount 4 s (0, 0)).1 ∧ (decide ((pCount 4 s (0, 0)).1 = 1) = f) ∧ ((pCount 4 s (0, 0)).1 < 3 ∨ S.image.length = z)) := fun hh => by have := hh.1; omega
    rw [if_neg h1, if_neg (fun hh => h hh.1)]
theorem mid_no {f : Bool} {s : Bytes} {S : Js} {z n : Nat} {st1 : Nat × Nat} (E : pNum s (0, 0) = (n, st1)) (h : ¬ ((1 ≤ n ∧ n ≤ 4) ∧ (decide (n = 1) = f) ∧ (n < 3 ∨ S.image.length = z))) : rdMid f s S z = none := by
  rw [mid_of E, if_neg h]
theorem mid_yes {f : Bool} {s : Bytes} {S : Js} {z n : Nat} {st1 : Nat × Nat} (E : pNum s (0, 0) = (n, st1)) (h : (1 ≤ n ∧ n ≤ 4) ∧ (decide (n = 1) = f) ∧ (n < 3 ∨ S.image.length = z)) : rdMid f s S z = rdKind n s st1 S z := by
  rw [mid_of E, if_pos h]
theorem kind1 {s : Bytes} {st st1 st2 st3 st4 st5 : Nat × Nat} {S : Js} {z n0 n1 nc zz : Nat} {lc : List Nat} (E0 : pNum s st = (n0, st1)) (E1 : pNum s st1 = (n1, st2)) (E2 : pCount 5 s st2 = (nc, st3)) (E3 : many (pCount 5 s) nc st3 = (lc, st4)) (E4 : pNum s st4 = (zz, st5)) :
    rdKind 1 s st S z = if baseOk n0 lc zz = true then some (⟨⟨0, 0, 0⟩, ⟨n0, n1, natI lc, []⟩, []⟩, zz, st5) else none := by
  unfold rdKind
  simp only [E0, E1, E2, E3, E4, if_true]
theorem kind2 {s p : Bytes} {st st1 : Nat × Nat} {S : Js} {z : Nat} (E0 : pText 4096 s st = (p, st1)) :
    rdKind 2 s st S z = if S.image.length < z ∧ p.length = min (z - S.image.length) 4096 then some (⟨S.hard, S.log, S.image ++ p⟩, z, st1) else none := by
  unfold rdKind
  simp only [E0, if_true]
  rfl
theorem kind3 {s : Bytes} {st st1 st2 st3 : Nat × Nat} {S : Js} {z n0 n1 n2 : Nat} (E0 : pNum s st = (n0, st1)) (E1 : pCount 5 s st1 = (n1, st2)) (E2 : pNum s st2 = (n2, st3)) :
    rdKind 3 s st S z = some (⟨⟨n0, n1, n2⟩, S.log, S.image⟩, z, st3) := by
  unfold rdKind
  simp only [E0, E1, E2, if_true]
  rfl
theorem kind4 {s d : Bytes} {st st1 st2 st3 st4 : Nat × Nat} {S : Js} {z i t q : Nat} (E0 : pNum s st = (i, st1)) (E1 : pNum s st1 = (t, st2)) (E2 : pCount 3 s st2 = (q, st3)) (E3 : pText 2048 s st3 = (d, st4)) :
    rdKind 4 s st S z = if mayEn ⟨t, q, d⟩ = true ∧ S.log.base < i ∧ i - S.log.base - 1 ≤ S.log.l.length then
        some (⟨S.hard, ⟨S.log.base, S.log.bterm, S.log.conf, S.log.l.take (i - S.log.base - 1) ++ [⟨t, q, d⟩]⟩, S.image⟩, z, st4) else none := by
  unfold rdKind
  simp only [E0, E1, E2, E3]
  rfl
/-- a state in block k, its slices in blocks from B on -/
def RkAt (B k : Nat) (S : Js) (W : World) : Prop :=
  ∃ vc vl, W.heap[k]? = some (.cells (toldCells S vc vl) 51) ∧ W.ownsRow B 3 1 vc S.log.conf.length (intVals S.log.conf) ∧ W.ownsRow B 116 3 vl S.log.l.length (enVals S.log.l)
/-- where a round stands before the end is asked for -/
def RdMid (W : World) (r k b : Nat) (s : Bytes) (M : Option (Js × Nat × (Nat × Nat))) (s5 s9 : Value) (wc : World) : Prop :=
  wc.heap[r]? = some (.cells toldZ 51) ∧ Below W.heap.size W wc ∧
  match M with
  | some P => s9 = .bool true ∧ s5 = .int .u64 (P.2.1 : Nat) ∧ RR wc b s P.2.2 ∧ RkAt W.heap.size k P.1 wc
  | none => s9 = .bool false
theorem RdMid.no {W : World} {r k b : Nat} {s : Bytes} {M : Option (Js × Nat × (Nat × Nat))} {s5 : Value} {wc : World} (h : M = none) (h1 : wc.heap[r]? = some (.cells toldZ 51)) (h2 : Below W.heap.size W wc) : RdMid W r k b s M s5 (.bool false) wc := by
  subst h
  exact ⟨h1, h2, rfl⟩
theorem RdMid.yes {W : World} {r k b : Nat} {s : Bytes} {M : Option (Js × Nat × (Nat × Nat))} {S : Js} {z : Nat} {st : Nat × Nat} {wc : World} (h : M = some (S, z, st)) (h1 : wc.heap[r]? = some (.cells toldZ 51)) (h2 : Below W.heap.size W wc)
    (h3 : RR wc b s st) (h4 : RkAt W.heap.size k S wc) : RdMid W r k b s M (.int .u64 z) (.bool true) wc := by
  subst h
  exact ⟨h1, h2, rfl, rfl, h3, h4⟩
/-- how Read ends -/
def RrPost (R : Option Js) (W : World) (e : Ending) (W' : World) : Prop :=
  (match R with
  | some S => ∃ vc vl, e = .returned (.tuple #[.agg (toldCells S vc vl), .bool true]) ∧ W'.ownsRow W.heap.size 3 1 vc S.log.conf.length (intVals S.log.conf) ∧ W'.ownsRow W.heap.size 116 3 vl S.log.l.length (enVals S.log.l)
  | none => ∃ cs : Array Value, cs.size = 8 ∧ cs.all (·.oneCell') = true ∧ e = .returned (.tuple #[.agg cs, .bool false])) ∧ Below W.heap.size W W'
theorem JQ.r {s b k w0 cs st W} (h : JQ s b k 51 w0 cs st W) {r : Nat} (hr : w0.heap[r]? = some (.cells toldZ 51)) (h1 : r ≠ b) (h2 : r ≠ k) : W.heap[r]? = some (.cells toldZ 51) :=
  (h.2.2.1.2.2.2.2 r (Array.getElem?_eq_some_iff.1 hr).1 h1 h2).trans hr
theorem rd_iff (xs : List Bytes) (S : Js) : rd xs = some S ↔ xs ≠ [] ∧ ∃ z, rdGo true (Js.zero, 0) xs = some (S, z) ∧ S.image.length = z := by
  unfold rd
  by_cases h : xs = []
  · simp [h]
  · rw [if_neg h]
    constructor
    · intro h1
      obtain ⟨P, hP, h1⟩ := Option.bind_eq_some_iff.1 h1
      split at h1
      · rename_i hl
        simp only [Option.some.injEq] at h1
        subst h1
        exact ⟨h, P.2, hP, hl⟩
      · cases h1
    · rintro ⟨_, z, h1, h2⟩
      rw [h1]
      simp [h2]
theorem rd_no {xs : List Bytes} (h : rdGo true (Js.zero, 0) xs = none) : rd xs = none := by
  unfold rd
  rw [h]
  split <;> rfl
theorem RrPost.no {xs : List Bytes} {W W' : World} {cs : Array Value} (h : rd xs = none) (hc : cs.size = 8) (hb : Below W.heap.size W W') (h1 : cs.all (·.oneCell') = true := by first | rfl | simp [toldZ, Value.oneCell']) : RrPost (rd xs) W (.returned (.tuple #[.agg cs, .bool false])) W' := by
  rw [h]
  exact ⟨⟨cs, hc, h1, rfl⟩, hb⟩
theorem RrPost.yes {xs : List Bytes} {W W' : World} {S : Js} {vc vl : Value} (h : rd xs = some S) (h1 : W'.ownsRow W.heap.size 3 1 vc S.log.conf.length (intVals S.log.conf)) (h2 : W'.ownsRow W.heap.size 116 3 vl S.log.l.length (enVals S.log.l)) (hb : Below W.heap.size W W') :
    RrPost (rd xs) W (.returned (.tuple #[.agg (toldCells S vc vl), .bool true])) W' := by
  rw [h]
  exact ⟨⟨vc, vl, rfl, h1, h2⟩, hb⟩
theorem RkAt.only {B b k : Nat} {S : Js} {s : Bytes} {st : Nat × Nat} {W W' : World} (h : RkAt B k S W) (hr : RR W b s st) (hbk : b ≠ k) (ho : Only b W W') : RkAt B k S W' := by
  obtain ⟨vc, vl, h1, h2, h3⟩ := h
  obtain ⟨pl, g1, g2⟩ := hr
  exact ⟨vc, vl, (ho.block k (Array.getElem?_eq_some_iff.1 h1).1 (fun e => hbk (by cases e; rfl))).trans h1,
    row_kept2 (b := b) (k := k) h2 (.only ho) (own_ne h2 g1 (fun cur e => by cases e)) (own_ne h2 h1 (fun cur e => by cases e)),
    row_kept2 (b := b) (k := k) h3 (.only ho) (own_ne h3 g1 (fun cur e => by cases e)) (own_ne h3 h1 (fun cur e => by cases e))⟩
theorem only_other {b r : Nat} {W W' : World} {o : Obj} (h : W.heap[r]? = some o) (hrb : b ≠ r) (ho : Only b W W') : W'.heap[r]? = some o :=
  (ho.block r (Array.getElem?_eq_some_iff.1 h).1 (fun e => hrb (by cases e; rfl))).trans h
theorem below_only {B b : Nat} {W W1 W' : World} (h : Below B W W1) (hb : B ≤ b) (ho : Only b W1 W') (hB : B ≤ W1.heap.size) : Below B W W' :=
  ⟨ho.os.trans h.os, ho.tape.trans h.tape, ho.output.trans h.output, Nat.le_trans h.size ho.size, fun j hj => (ho.block j (by omega) (fun e => by cases e; omega)).trans (h.block j hj)⟩
theorem own_one {w : World} {B : Nat} {e : TypeId} {s : Nat} {v : Value} {n : Nat} {xs : List Value} (h : w.ownsRow B e s v n xs) : v.oneCell' = true := by
  obtain ⟨a, c, rfl⟩ := own_form h
  rfl
theorem _root_.Go.World.ownsRow.row1 {w : World} {B : Nat} {e : TypeId} {s : Nat} {v : Value} {n r : Nat} {xs : List Value} (h : w.ownsRow B e s v n xs) {cs : Array Value} (hr : w.heap[r]? = some (.cells cs 51)) (zs : Array Value) (hne : e ≠ 51) : (w.setRow r zs).ownsRow B e s v n xs :=
  ownsRow_of_block h fun j hj => setRow_other w r j zs (fun e' => own_ne h hr (fun cur e2 => by cases e2; exact hne rfl) (by rw [hj, e']))
theorem rd_end {xs : List Bytes} {W W' : World} {S : Js} {z : Nat} {q : Bool} {vc vl : Value} (hrd : ∀ S, rd xs = some S ↔ xs ≠ [] ∧ ∃ z, rdGo true (Js.zero, 0) xs = some (S, z) ∧ S.image.length = z) (hx : xs ≠ []) (hg : rdGo true (Js.zero, 0) xs = some (S, z)) (hq : q = decide (S.image.length = z))
    (h1 : W'.ownsRow W.heap.size 3 1 vc S.log.conf.length (intVals S.log.conf)) (h2 : W'.ownsRow W.heap.size 116 3 vl S.log.l.length (enVals S.log.l)) (hb : Below W.heap.size W W') :
    RrPost (rd xs) W (.returned (.tuple #[.agg (toldCells S vc vl), .bool q])) W' := by
  by_cases h : S.image.length = z
  · rw [hq, decide_eq_true h]
    exact RrPost.yes ((hrd S).2 ⟨hx, z, hg, h⟩) h1 h2 hb
  · rw [hq, decide_eq_false h]
    obtain ⟨a1, k1, rfl⟩ := own_form h1
    obtain ⟨a2, k2, rfl⟩ := own_form h2
    refine RrPost.no ?_ rfl hb (by simp [toldCells, Value.oneCell'])
    cases hr : rd xs with
    | none => rfl
    | some S' =>
      obtain ⟨_, z', g1, g2⟩ := (hrd S').1 hr
      rw [hg] at g1
      cases g1
      exact absurd g2 h
end Go.Proofs.YtmehcogaopackaaGreat
