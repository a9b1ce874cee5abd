/-
  The walk of the journal's base record. (Several texts in one.)
-/
import Derived.Test.YtmehcogaopackaaGreatGC
import Derived.Test.YtmehcogaopackaaGreatJWhole
/- PLAIN: a region that draws its order and holds one load that may come up anywhere among other operations that leave its cell alone: walked once. -/
namespace Go.Proofs.YtmehcogaopackaaGreat
open Go.RowKit
variable {P : Program} {ops : Array Oper} {Q : Exit → Act → World → Prop} {md : Region.Mode} {S : World → Prop}
/-- the two ways to stand: operation al (whose value is v wherever X holds) has not come up yet, or it has -/
def Pend (P : Program) (md : Region.Mode) (ops : Array Oper) (Q : Exit → Act → World → Prop) (S : World → Prop) (al : Nat) (d : Tmp) (v : Value) (X : World → Prop) (fuel : Nat) (listed : Array Bool) (a : Act) : Prop :=
  (∀ W, X W → wpAnyH P md ops Q S (fuel + 1) listed a W) ∧ (∀ W, X W → wpAnyH P md ops Q S fuel (listed.setIfInBounds al true) (a.put (some d) v) W)
theorem Pend.start {al : Nat} {d : Tmp} {v : Value} {X : World → Prop} {fuel : Nat} {listed : Array Bool} {a : Act} {W : World} (h : Pend P md ops Q S al d v X fuel listed a) (hX : X W) : wpAnyH P md ops Q S (fuel + 1) listed a W := h.1 W hX
theorem wpOp_value {i : Nat} {o : Oper} {d : Tmp} {v : Value} {K : Act → World → Prop} {a : Act} {w : World} (hi : ops[i]? = some o) (hg : o.guard = none) (hd : o.dst = some d) (hrun : (execOp a.eval o).run P w = .ok (.value v) w) (h : K (a.put (some d) v) w) : wpOp P ops Q i K a w := by
  refine wpOp_plain hi hg ?_
  unfold Oper.wp
  rw [hrun, Oper.upon_value, hd]
  exact h
theorem Pend.step {al ci : Nat} {d dc : Tmp} {oa oc : Oper} {v : Value} {X : World → Prop} {X' : Value → World → Prop} {fuel : Nat} {listed : Array Bool} {a : Act} {rs : List Nat}
    (ha : ops[al]? = some oa) (hag : oa.guard = none) (had : oa.dst = some d) (hS : ∀ W, S W)
    (hc : ops[ci]? = some oc) (hg : oc.guard = none) (hd : oc.dst = some dc) (hsel : Region.noSelect ops = true) (hlook : (oc.looksAt ops).contains d = false) (hne : (dc == d) = false) (hci : (ci == al) = false)
    (hr : Region.ready md ops listed = rs) (hrs : (rs == [ci, al] || rs == [al, ci]) = true) (hr' : Region.ready md ops (listed.setIfInBounds al true) = [ci])
    (hQ : ∀ c a u w, Q (.panic c) a w → Q (.panic c) (a.put (some d) u) w)
    (hrun : ∀ W, X W → (execOp a.eval oa).run P W = .ok (.value v) W)
    (hwp : ∀ W K, X W → (∀ u W', X' u W' → K (a.put (some dc) u) W') → oc.wp P a W K Q)
    (h : ∀ u, Pend P md ops Q S al d v (X' u) fuel (listed.setIfInBounds ci true) (a.put (some dc) u)) : Pend P md ops Q S al d v X (fuel + 1) listed a := by
  have hne' : dc ≠ d := by simpa using hne
  have hci' : ci ≠ al := by simpa using hci
  have hlook' : d ∉ oc.looksAt ops := by simpa using hlook
  have hset : (listed.setIfInBounds al true).setIfInBounds ci true = (listed.setIfInBounds ci true).setIfInBounds al true := Array.setIfInBounds_comm _ _ (Ne.symm hci')
  have second : ∀ W, X W → wpAnyH P md ops Q S (fuel + 1) (listed.setIfInBounds al true) (a.put (some d) v) W := by
    intro W hX
    refine wpAnyH_all hr' (by simp) (fun i hi => ?_)
    obtain rfl : i = ci := by simpa using hi
    refine wpOp_plain hc hg (wp_put_slot hd (fun cs b => Region.noSelect_spec hsel _ _ cs b hc) hlook' hne' (fun c a w => hQ c a _ w) (hwp W _ hX (fun u W' hX' => ?_)))
    refine ⟨hS _, ?_⟩
    rw [hset]
    exact (h u).2 W' hX'
  refine ⟨fun W hX => ?_, second⟩
  have hrs' : rs = [ci, al] ∨ rs = [al, ci] := by simpa using hrs
  refine wpAnyH_all hr (by rcases hrs' with rfl | rfl <;> simp) (fun i hi => ?_)
  have hi' : i = ci ∨ i = al := by rcases hrs' with rfl | rfl <;> simp at hi <;> omega
  rcases hi' with rfl | rfl
  · exact wpOp_plain hc hg (hwp W _ hX (fun u W' hX' => ⟨hS _, (h u).1 W' hX'⟩))
  · exact wpOp_value ha hag had (hrun W hX) ⟨hS _, second W hX⟩
theorem Pend.base {al : Nat} {d : Tmp} {oa : Oper} {v : Value} {X : World → Prop} {fuel : Nat} {listed : Array Bool} {a : Act}
    (ha : ops[al]? = some oa) (hag : oa.guard = none) (had : oa.dst = some d) (hS : ∀ W, S W) (hr : Region.ready md ops listed = [al])
    (hrun : ∀ W, X W → (execOp a.eval oa).run P W = .ok (.value v) W)
    (h : ∀ W, X W → wpAnyH P md ops Q S fuel (listed.setIfInBounds al true) (a.put (some d) v) W) : Pend P md ops Q S al d v X fuel listed a := by
  refine ⟨fun W hX => ?_, h⟩
  refine wpAnyH_all hr (by simp) (fun i hi => ?_)
  obtain rfl : i = al := by simpa using hi
  exact wpOp_value ha hag had (hrun W hX) ⟨hS _, h W hX⟩
end Go.Proofs.YtmehcogaopackaaGreat
/- The walks of the journal's must, vote, piece: a record that is read into the state in block k. -/
namespace Go.Proofs.YtmehcogaopackaaGreat
open Go.RowKit
set_option linter.unusedVariables false
set_option linter.unusedSimpArgs false
/-- what the reading of a record that is not right ends in -/
def fault : List PanicEntry := [{ v := .iface 139 (.agg #[]), recovered := false }]
/-- how a record's reading ends -/
def Said (ok : Bool) (e : Ending) : Prop := e = if ok then .returned (.tuple #[]) else .panicked fault
theorem bodyPost_panic {P : Program} {fn : Func} {R : Ending → World → Prop} {a : Act} {w : World} {c : List PanicEntry} (hd : a.defers = []) (hR : R (.panicked c) w) : bodyPost P fn R (.panic c) a w := ⟨hd, hR⟩
theorem must_ok (w : World) : Calls Tryz.prog 81 #[.bool true] w fun e w' => e = .returned (.tuple #[]) ∧ w' = w := by
  go_enter Tryz.func81, Tryz.ntmps81
  go_wp2_with fail
  go_end0
  exact ⟨rfl, rfl⟩
theorem must_bad (w : World) : Calls Tryz.prog 81 #[.bool false] w fun e w' => e = .panicked fault ∧ w' = w := by
  go_enter Tryz.func81, Tryz.ntmps81
  go_wp2_with fail
  exact bodyPost_panic rfl ⟨rfl, rfl⟩
theorem must_yes {x : Bool} (hx : x = true) (w : World) : Calls Tryz.prog 81 #[.bool x] w fun e w' => e = .returned (.tuple #[]) ∧ w' = w := by rw [hx]; exact must_ok w
theorem must_no {x : Bool} (hx : x = false) (w : World) : Calls Tryz.prog 81 #[.bool x] w fun e w' => e = .panicked fault ∧ w' = w := by rw [hx]; exact must_bad w
/-- the cells of a state: z: how many bytes the image must have -/
def stCells (S : Js) (z : Nat) (vc vl : Value) : Array Value := #[.int .u64 S.hard.term, .int .i64 S.hard.vote, .int .u64 S.hard.life, .int .u64 S.log.base, .int .u64 S.log.bterm, vc, vl, .string (str S.image), .int .u64 z]
set_option maxRecDepth 100000 in
set_option maxHeartbeats 1000000 in
theorem vote_any {s : Bytes} {b k : Nat} {w : World} {st st1 st2 st3 : Nat × Nat} {n0 n1 n2 : Nat} (hs : s.length ≤ 1152921504606846976) (E0 : Hid (pNum s st = (n0, st1))) (E1 : Hid (pCount 5 s st1 = (n1, st2))) (E2 : Hid (pNum s st2 = (n2, st3)))
    (x0 x1 x2 x3 x4 x5 x6 x7 x8 : Value) (h : JR s b k 98 w #[x0, x1, x2, x3, x4, x5, x6, x7, x8] st w) :
    Calls Tryz.prog 84 #[.pointer (some ⟨k, 0, none⟩), .pointer (some ⟨b, 0, none⟩)] w fun e w' => e = .returned (.tuple #[]) ∧ JR s b k 98 w #[.int .u64 n0, .int .i64 n1, .int .u64 n2, x3, x4, x5, x6, x7, x8] st3 w' := by
  have HJ0 := hid h
  clear h
  go_enter Tryz.func84, Tryz.ntmps84
  go_wp2_with fail
  refine Calls.mono (jrNum hs E0.out HJ0.out) ?_
  rintro e w1 ⟨rfl, J1, _⟩
  have HJ1 := hid J1
  clear J1 HJ0
  go_wp2_with fail
  refine Calls.mono (jrCount (m := 5) (by decide) hs E1.out HJ1.out) ?_
  rintro e w2 ⟨rfl, J2, _⟩
  have HJ2 := hid J2
  clear J2 HJ1
  go_wp2_with fail
  refine Calls.mono (jrNum hs E2.out HJ2.out) ?_
  rintro e w3 ⟨rfl, J3, _⟩
  have f0 := J3.free 0
  have f1 := J3.free 1
  have f2 := J3.free 2
  have c0 := J3.at 0 _ rfl
  have c1 := J3.at 1 _ rfl
  have c2 := J3.at 2 _ rfl
  have J4 := ((J3.set 0 (.int .u64 n0)).set 1 (.int .i64 n1)).set 2 (.int .u64 n2)
  have HJ4 := hid J4
  clear J3 J4 HJ2
  go_wp2_with fail
  go_end0
  exact ⟨rfl, HJ4.out⟩
set_option maxRecDepth 100000 in
set_option maxHeartbeats 1000000 in
theorem piece_ok {s : Bytes} {b k : Nat} {w : World} {st st1 : Nat × Nat} {p image : Bytes} {z : Nat} (hs : s.length ≤ 1152921504606846976) (E0 : Hid (pText 4096 s st = (p, st1)))
    (hp : p.length ≤ 4096) (hz : z ≤ 262144) (hi : image.length < z) (hm : p.length = min (z - image.length) 4096)
    (x0 x1 x2 x3 x4 x5 x6 : Value) (h : JR s b k 98 w #[x0, x1, x2, x3, x4, x5, x6, .string (str image), .int .u64 z] st w) :
    Calls Tryz.prog 83 #[.pointer (some ⟨k, 0, none⟩), .pointer (some ⟨b, 0, none⟩)] w fun e w' => e = .returned (.tuple #[]) ∧ JR s b k 98 w #[x0, x1, x2, x3, x4, x5, x6, .string (str (image ++ p)), .int .u64 z] st1 w' := by
  have HJ0 := hid h
  clear h
  have hzi : (str image).size = image.length := str_size _
  have hzp : (str p).size = p.length := str_size _
  have HM := hid hm
  clear hm
  go_enter Tryz.func83, Tryz.ntmps83
  go_wp2_with fail
  refine Calls.mono (jrText (m := 4096) (by decide) hs E0.out HJ0.out) ?_
  rintro e w1 ⟨rfl, J1, _⟩
  have f7 := J1.free 7
  have c7 := J1.at 7 (.string (str image)) rfl
  have c8 := J1.at 8 (.int .u64 z) rfl
  have J2 := J1.set 7 (.string (str (image ++ p)))
  have HJ2 := hid J2
  clear J1 J2 HJ0
  have hw1 : IntKind.u64.wrap (image.length : Int) = (image.length : Int) := by rw [IntKind.wrap_u64]; omega
  have hw2 : IntKind.u64.wrap ((z : Int) - (image.length : Int)) = ((z - image.length : Nat) : Int) := by rw [IntKind.wrap_u64]; omega
  go_wp2_with fail
  go_region
  generalize hl : z - image.length = left at *
  have hl0 : (0 : Int) < (left : Int) := by omega
  have hsum : ¬ (9223372036854775807 < image.length + p.length) := by omega
  have hstr : str image ++ str p = str (image ++ p) := str_append _ _
  go_wp2_with fail
  refine Calls.mono (must_yes (by rw [HM.out]; simp only [beq_iff_eq]; omega) _) ?_
  rintro e w2 ⟨rfl, rfl⟩
  go_wp2_with fail
  go_end0
  exact ⟨rfl, HJ2.out⟩
set_option maxRecDepth 100000 in
set_option maxHeartbeats 1000000 in
theorem piece_bad {s : Bytes} {b k : Nat} {w : World} {st st1 : Nat × Nat} {p image : Bytes} {z : Nat} (hs : s.length ≤ 1152921504606846976) (E0 : Hid (pText 4096 s st = (p, st1)))
    (hp : p.length ≤ 4096) (hz : z ≤ 262144) (hi : image.length ≤ z) (hm : ¬ (image.length < z ∧ p.length = min (z - image.length) 4096))
    (x0 x1 x2 x3 x4 x5 x6 : Value) (h : JR s b k 98 w #[x0, x1, x2, x3, x4, x5, x6, .string (str image), .int .u64 z] st w) :
    Calls Tryz.prog 83 #[.pointer (some ⟨k, 0, none⟩), .pointer (some ⟨b, 0, none⟩)] w fun e w' => e = .panicked fault ∧ JR s b k 98 w #[x0, x1, x2, x3, x4, x5, x6, .string (str image), .int .u64 z] st1 w' := by
  have HJ0 := hid h
  clear h
  have hzi : (str image).size = image.length := str_size _
  have hzp : (str p).size = p.length := str_size _
  have HM := hid hm
  clear hm
  go_enter Tryz.func83, Tryz.ntmps83
  go_wp2_with fail
  refine Calls.mono (jrText (m := 4096) (by decide) hs E0.out HJ0.out) ?_
  rintro e w1 ⟨rfl, J1, _⟩
  have f7 := J1.free 7
  have c7 := J1.at 7 (.string (str image)) rfl
  have c8 := J1.at 8 (.int .u64 z) rfl
  have HJ2 := hid J1
  clear J1 HJ0
  have hw1 : IntKind.u64.wrap (image.length : Int) = (image.length : Int) := by rw [IntKind.wrap_u64]; omega
  have hw2 : IntKind.u64.wrap ((z : Int) - (image.length : Int)) = ((z - image.length : Nat) : Int) := by rw [IntKind.wrap_u64]; omega
  go_wp2_with fail
  go_region
  generalize hl : z - image.length = left at *
  by_cases hl0 : left = 0
  · subst hl0
    go_wp2_with fail
    refine Calls.mono (must_no rfl _) ?_
    rintro e w2 ⟨rfl, rfl⟩
    go_wp2_with fail
    exact bodyPost_panic rfl ⟨rfl, HJ2.out⟩
  · have hl1 : (0 : Int) < (left : Int) := by omega
    have hb : ((p.length : Int) == min (left : Int) 4096) = false := by
      have := HM.out
      simp only [beq_eq_false_iff_ne, ne_eq]
      intro e
      exact this ⟨by omega, by omega⟩
    have HB := hid hb
    clear hb
    go_wp2_with fail
    refine Calls.mono (must_no HB.out _) ?_
    rintro e w2 ⟨rfl, rfl⟩
    go_wp2_with fail
    exact bodyPost_panic rfl ⟨rfl, HJ2.out⟩
end Go.Proofs.YtmehcogaopackaaGreat
/- The walk of the journal's base record. -/
namespace Go.Proofs.YtmehcogaopackaaGreat
open Go.RowKit
set_option linter.unusedVariables false
set_option linter.unusedSimpArgs false
theorem row_ne {w : World} {base : Nat} {e : TypeId} {size : Nat} {v : Value} {n : Nat} {xs : List Value} (h : w.ownsRow base e size v n xs) {b : Nat} (hb : b < base) : v.ownBlock ≠ some b := by
  intro e'
  have := (h.lt b e').1
  omega
theorem Cells.of_row {w : World} {base : Nat} {e : TypeId} {size : Nat} {v : Value} {n : Nat} {xs : List Value} (h : w.ownsRow base e size v n xs) (D : List Nat) (hD : ∀ j ∈ D, j < base) : Cells D w v n xs := by
  obtain ⟨hl, h⟩ := h
  rcases h with ⟨rfl, rfl⟩ | ⟨g, cap, cur, rfl, hb, hg, hn, hc, hz, ht⟩
  · exact ⟨none, 0, rfl, Nat.le_refl _, fun hp => by omega⟩
  · refine ⟨some ⟨g, 0, none⟩, cap, rfl, hn, fun hp => ⟨g, 0, rfl, fun hm => by have := hD g hm; omega, fun j hj => ?_⟩⟩
    subst ht
    have hj2 : j < cur.size := by
      rw [List.length_take, Array.length_toList] at hj
      omega
    rw [Nat.zero_add]
    refine cell_in hg _ _ ?_
    rw [List.getElem_take, Array.getElem_toList]
    exact Array.getElem?_eq_getElem hj2
theorem grown_set (w : World) (g o : Nat) (v : Value) : w.grownBy (w.setCell ⟨g, o, none⟩ v) (some g) := ⟨rfl, rfl, rfl, by simp [World.setCell], fun j _ h => Below.heap_setCell _ _ _ _ (fun e => h (by rw [e]))⟩
theorem intVals_snoc (l : List Int) (n : Int) : intVals (l ++ [n]) = intVals l ++ [.int .i64 n] := by simp [intVals]
theorem infoConfs : (Tryz.prog.info? 3).map (fun i => (i.zero, i.size, i.bytes)) = some (some (.int .i64 0), 1, 8) := by kernel_rfl
theorem sizeSt : (Tryz.prog.info? 98).map (·.size) = some 9 := by kernel_rfl
def stZ : Array Value := #[.int .u64 0, .int .i64 0, .int .u64 0, .int .u64 0, .int .u64 0, .slice none 0 0, .slice none 0 0, .string { data := #[] }, .int .u64 0]
theorem JR.row {s b k t w0 cs st W} (h : JR s b k t w0 cs st W) (cs' : Array Value) : JR s b k t w0 cs' st (W.setRow k cs') := by
  refine ⟨⟨?_, h.1.2⟩, setRow_heap W k cs cs' t (0, 0) h.2.1, h.2.2.1.row cs', h.2.2.2⟩
  have := h.1.1
  unfold RD at *
  rw [setRow_other W k b cs' h.2.2.2]
  exact this
theorem Kept2.trans' {b k : Nat} {w w1 w2 : World} (h : Kept2 b k w w1) (g : w2.os = w1.os ∧ w2.tape = w1.tape ∧ w2.output = w1.output ∧ w1.heap.size ≤ w2.heap.size ∧ ∀ j, j < w.heap.size → w2.heap[j]? = w1.heap[j]?) : Kept2 b k w w2 :=
  ⟨g.1.trans h.1, g.2.1.trans h.2.1, g.2.2.1.trans h.2.2.1, Nat.le_trans h.2.2.2.1 g.2.2.2.1, fun j hj h1 h2 => (g.2.2.2.2 j hj).trans (h.2.2.2.2 j hj h1 h2)⟩
theorem JR.grown {s b k t w0 cs st W W'} {row : Option Nat} (h : JR s b k t w0 cs st W) (hg : W.grownBy W' row) (h1 : row ≠ some b) (h2 : row ≠ some k) (h3 : ∀ j, row = some j → w0.heap.size ≤ j) : JR s b k t w0 cs st W' := by
  obtain ⟨g1, g3, g4, g5⟩ := h
  refine ⟨⟨?_, g1.2⟩, (hg.block k (Array.getElem?_eq_some_iff.1 g3).1 (fun e => h2 e.symm)).trans g3,
    g4.trans' ⟨hg.os, hg.tape, hg.output, hg.size, fun j hj => hg.block j (Nat.lt_of_lt_of_le hj g4.2.2.2.1) (fun e => by have := h3 j e.symm; omega)⟩, g5⟩
  have := g1.1
  unfold RD at *
  rw [hg.block b (Array.getElem?_eq_some_iff.1 this).1 (fun e => h1 e.symm)]
  exact this
theorem ownsRow_succ {w : World} {B : Nat} {e : TypeId} {s : Nat} {v : Value} {n : Nat} {xs : List Value} (h : w.ownsRow B e s v (n + 1) xs) : ∃ g cap, v = .slice (some ⟨g, 0, none⟩) (n + 1) cap := by
  rcases h.2 with ⟨_, h⟩ | ⟨g, cap, cur, rfl, _⟩
  · omega
  · exact ⟨g, cap, rfl⟩
def natI (l : List Nat) : List Int := l.map fun (n : Nat) => (n : Int)
/-- may a base record be -/
def baseOk (n0 : Nat) (lc : List Nat) (z : Nat) : Bool := members (natI lc) && (decide (n0 ≤ 4611686018427387904) && decide (z ≤ 262144))

set_option maxRecDepth 100000 in
set_option maxHeartbeats 4000000 in
theorem base_any {s : Bytes} {b k : Nat} {w : World} {st st1 st2 st3 st4 st5 : Nat × Nat} {n0 n1 nc z : Nat} {lc : List Nat} (hs : s.length ≤ 1152921504606846976) (E0 : Hid (pNum s st = (n0, st1))) (E1 : Hid (pNum s st1 = (n1, st2)))
    (EC : Hid (pCount 5 s st2 = (nc, st3))) (EM : Hid (many (pCount 5 s) nc st3 = (lc, st4))) (EZ : Hid (pNum s st4 = (z, st5)))
    (cs : Array Value) (hcs : cs.size = 9) (h : JR s b k 98 w cs st w) :
    Calls Tryz.prog 82 #[.pointer (some ⟨k, 0, none⟩), .pointer (some ⟨b, 0, none⟩)] w fun e w' => Said (baseOk n0 lc z) e ∧ ∃ vc, w'.ownsRow w.heap.size 3 1 vc lc.length (intVals (natI lc)) ∧ JR s b k 98 w #[.int .u64 0, .int .i64 0, .int .u64 0, .int .u64 n0, .int .u64 n1, vc, .slice none 0 0, .string { data := #[] }, .int .u64 z] st5 w' := by
  obtain ⟨i1, hi1, hy0, hy1, hy2⟩ := info_parts infoConfs
  have HJ0 := hid h
  have hkl := h.lt
  have hbl := h.1.lt
  have hnc : nc ≤ 5 := by have := pCount_le 5 s st2; rw [EC.out] at this; exact this
  have hZ1 : stZ.all (·.oneCell') = true := by simp [stZ, Value.oneCell']
  have hlc : lc.length = nc := by have := many_len (pCount 5 s) nc st3; rw [EM.out] at this; exact this
  clear h
  go_enter Tryz.func82, Tryz.ntmps82
  go_wp2_with (refine wpList_store_row rfl 98 _ _ rfl k stZ (by rfl) (by rfl) 98 cs HJ0.out.2.1 sizeSt hcs hZ1 ?_)
  have HJ1 := hid (HJ0.out.row stZ)
  clear HJ0
  go_wp2_with fail
  refine Calls.mono (jrNum hs E0.out HJ1.out) ?_
  rintro e w1 ⟨rfl, J1, _⟩
  have HJ2 := hid J1
  clear J1 HJ1
  go_wp2_with fail
  refine Calls.mono (jrNum hs E1.out HJ2.out) ?_
  rintro e w2 ⟨rfl, J3, _⟩
  have f3 := J3.free 3
  have f4 := J3.free 4
  have c3 := J3.at 3 (.int .u64 0) rfl
  have c4 := J3.at 4 (.int .u64 0) rfl
  have J4 : JR s b k 98 w #[.int .u64 0, .int .i64 0, .int .u64 0, .int .u64 n0, .int .u64 n1, .slice none 0 0, .slice none 0 0, .string { data := #[] }, .int .u64 0] st2 ((w2.setCell ⟨k, 3, none⟩ (.int .u64 n0)).setCell ⟨k, 4, none⟩ (.int .u64 n1)) := (J3.set 3 (.int .u64 n0)).set 4 (.int .u64 n1)
  have HJ4 := hid J4
  clear J3 J4 HJ2
  go_wp2_with fail
  refine Calls.mono (jrCount (m := 5) (by decide) hs EC.out HJ4.out) ?_
  rintro e w20 ⟨rfl, J5, _⟩
  have HJ5 := hid J5
  have hsz := J5.2.2.1.2.2.2.1
  have hkl5 := J5.lt
  have hbl5 := J5.1.lt
  clear J5 HJ4
  go_wp2_with fail
  go_loopw [21] (fun i wr => ∃ (q : Nat) (v : Value), i = .int .i64 q ∧ q ≤ nc ∧ JR s b k 98 w #[.int .u64 0, .int .i64 0, .int .u64 0, .int .u64 n0, .int .u64 n1, v, .slice none 0 0, .string { data := #[] }, .int .u64 0] (many (pCount 5 s) q st3).2 wr ∧ wr.ownsRow w.heap.size 3 1 v q (intVals (natI (many (pCount 5 s) q st3).1))) (fun i _ => nc - (intOf i).toNat)
  case atStart => exact ⟨0, _, rfl, Nat.zero_le _, HJ5.out, World.ownsRow_nil _ _ _ _⟩
  case round =>
    obtain ⟨q, v, rfl, hq, J, ho⟩ := hrel
    obtain ⟨a2, cap2, rfl⟩ := own_form ho
    by_cases hlt2 : q < nc
    · have HM := hid (show many (pCount 5 s) (q + 1) st3 = ((many (pCount 5 s) q st3).1 ++ [(pCount 5 s (many (pCount 5 s) q st3).2).1], (pCount 5 s (many (pCount 5 s) q st3).2).2) from rfl)
      generalize hst : many (pCount 5 s) q st3 = p at *
      obtain ⟨l, st⟩ := p
      simp only at ho J HM
      clear hst
      go_wp2_with fail
      have hX0 : JR s b k 98 w #[.int .u64 0, .int .i64 0, .int .u64 0, .int .u64 n0, .int .u64 n1, (.slice a2 q cap2), .slice none 0 0, .string { data := #[] }, .int .u64 0] st wr.drew ∧ wr.drew.ownsRow w.heap.size 3 1 (.slice a2 q cap2) q (intVals (natI l)) := ⟨J, ho⟩
      clear J ho
      refine wp_region_held_drew (S := fun _ => True) (by kernel_rfl) trivial (fun hHeld => ?_)
      refine wpAnyH_takeD (i := 0) (d := 23) (v := .pointer (some ⟨k, 0, none⟩)) rfl rfl rfl (by kernel_rfl) (by kernel_rfl) (by kernel_rfl) (fun _ _ _ _ h => h) ?h0 hHeld ?_
      case h0 => intro w _; go_simp
      simp only [Act.put, List.setIfInBounds_toArray, List.set_cons_zero, List.set_cons_succ]
      refine wpAnyH_takeD (i := 1) (d := 24) (v := .pointer (some ⟨k, 0, none⟩)) rfl rfl rfl (by kernel_rfl) (by kernel_rfl) (by kernel_rfl) (fun _ _ _ _ h => h) ?h1 hHeld ?_
      case h1 => intro w _; go_simp
      simp only [Act.put, List.setIfInBounds_toArray, List.set_cons_zero, List.set_cons_succ]
      refine wpAnyH_takeD (i := 2) (d := 25) (v := .pointer (some ⟨k, 0, none⟩)) rfl rfl rfl (by kernel_rfl) (by kernel_rfl) (by kernel_rfl) (fun _ _ _ _ h => h) ?h2 hHeld ?_
      case h2 => intro w _; go_simp
      simp only [Act.put, List.setIfInBounds_toArray, List.set_cons_zero, List.set_cons_succ]
      refine wpAnyH_takeD (i := 3) (d := 26) (v := .pointer (some ⟨k, 3, none⟩)) rfl rfl rfl (by kernel_rfl) (by kernel_rfl) (by kernel_rfl) (fun _ _ _ _ h => h) ?h3 hHeld ?_
      case h3 => intro w _; go_simp
      simp only [Act.put, List.setIfInBounds_toArray, List.set_cons_zero, List.set_cons_succ]
      refine wpAnyH_takeD (i := 4) (d := 27) (v := .pointer (some ⟨k, 5, none⟩)) rfl rfl rfl (by kernel_rfl) (by kernel_rfl) (by kernel_rfl) (fun _ _ _ _ h => h) ?h4 hHeld ?_
      case h4 => intro w _; go_simp
      simp only [Act.put, List.setIfInBounds_toArray, List.set_cons_zero, List.set_cons_succ]
      refine wpAnyH_takeD (i := 6) (d := 29) (v := .pointer (some ⟨b, 0, none⟩)) rfl rfl rfl (by kernel_rfl) (by kernel_rfl) (by kernel_rfl) (fun _ _ _ _ h => h) ?h6 hHeld ?_
      case h6 => intro w _; go_simp
      simp only [Act.put, List.setIfInBounds_toArray, List.set_cons_zero, List.set_cons_succ]
      refine Pend.start (al := 5) (d := 28) (v := .slice a2 q cap2) (X := fun W => JR s b k 98 w #[.int .u64 0, .int .i64 0, .int .u64 0, .int .u64 n0, .int .u64 n1, (.slice a2 q cap2), .slice none 0 0, .string { data := #[] }, .int .u64 0] st W ∧ W.ownsRow w.heap.size 3 1 (.slice a2 q cap2) q (intVals (natI l))) ?_ hX0
      refine Pend.step (ci := 7) (dc := 30) (rs := [5, 7]) (X' := fun u W => u = .int .i64 (pCount 5 s st).1 ∧ JR s b k 98 w #[.int .u64 0, .int .i64 0, .int .u64 0, .int .u64 n0, .int .u64 n1, (.slice a2 q cap2), .slice none 0 0, .string { data := #[] }, .int .u64 0] (pCount 5 s st).2 W ∧ W.ownsRow w.heap.size 3 1 (.slice a2 q cap2) q (intVals (natI l))) rfl rfl rfl (fun _ => trivial) rfl rfl rfl (by kernel_rfl) (by kernel_rfl) (by kernel_rfl) (by kernel_rfl) (by kernel_rfl) (by kernel_rfl) (by kernel_rfl) (fun _ _ _ _ h => h) ?r1 ?w1 ?_
      case r1 =>
        intro W hX
        have c5 : W.cell? ⟨k, 5, none⟩ = some (.slice a2 q cap2) := hX.1.at 5 _ rfl
        go_simp
      case w1 =>
        intro W K hX hK
        simp only [Act.put, List.setIfInBounds_toArray, List.set_cons_zero, List.set_cons_succ] at hK
        go_simp
        refine Calls.mono (jrCount (m := 5) (by decide) hs (n := (pCount 5 s st).1) (st' := (pCount 5 s st).2) rfl hX.1) ?_
        rintro e W' ⟨rfl, hJ', hO'⟩
        exact hK _ _ ⟨rfl, hJ', hX.2.kept hO' (.inr (row_ne hX.2 hbl))⟩
      intro u1
      simp only [Act.put, List.setIfInBounds_toArray, List.set_cons_zero, List.set_cons_succ]
      refine Pend.step (ci := 8) (dc := 31) (rs := [5, 8]) (X' := fun u W => ∃ g, u = .slice (some ⟨g, 0, none⟩) 1 1 ∧ W.heap[g]? = some (.cells #[.int .i64 (pCount 5 s st).1] 3) ∧ JR s b k 98 w #[.int .u64 0, .int .i64 0, .int .u64 0, .int .u64 n0, .int .u64 n1, (.slice a2 q cap2), .slice none 0 0, .string { data := #[] }, .int .u64 0] (pCount 5 s st).2 W ∧ W.ownsRow w.heap.size 3 1 (.slice a2 q cap2) q (intVals (natI l))) rfl rfl rfl (fun _ => trivial) rfl rfl rfl (by kernel_rfl) (by kernel_rfl) (by kernel_rfl) (by kernel_rfl) (by kernel_rfl) (by kernel_rfl) (by kernel_rfl) (fun _ _ _ _ h => h) ?r2 ?w2 ?_
      case r2 =>
        intro W hX
        have c5 : W.cell? ⟨k, 5, none⟩ = some (.slice a2 q cap2) := hX.2.1.at 5 _ rfl
        go_simp
      case w2 =>
        intro W K hX hK
        obtain ⟨rfl, hJ, hO⟩ := hX
        simp only [Act.put, List.setIfInBounds_toArray, List.set_cons_zero, List.set_cons_succ] at hK
        go_simp
        exact hK _ _ ⟨_, rfl, heap_alloc_new _ _, hJ.below ((Below.refl _ _).alloc (Nat.le_refl _) _), hO.alloc _⟩
      intro u2
      simp only [Act.put, List.setIfInBounds_toArray, List.set_cons_zero, List.set_cons_succ]
      refine Pend.base rfl rfl rfl (fun _ => trivial) (by kernel_rfl) ?r3 ?_
      case r3 =>
        intro W hX
        obtain ⟨g, rfl, hg, hJ, hO⟩ := hX
        have c5 : W.cell? ⟨k, 5, none⟩ = some (.slice a2 q cap2) := hJ.at 5 _ rfl
        go_simp
      intro W hX
      obtain ⟨g, rfl, hg, hJ, hO⟩ := hX
      simp only [Act.put, List.setIfInBounds_toArray, List.set_cons_zero, List.set_cons_succ]
      refine wpAnyH_one (i := 9) rfl rfl (by kernel_rfl) ?_
      have hnews : ∀ j u, [Value.int .i64 (pCount 5 s st).1][j]? = some u → W.cell? ((⟨g, 0, none⟩ : Addr).add j) = some u := by
        intro j u hu
        rw [show (⟨g, 0, none⟩ : Addr).add j = ⟨g, j, none⟩ from by unfold Addr.add; split <;> simp_all]
        exact cell_in hg j u (by simpa using hu)
      refine wp_append_own (w := W) _ _ 46 rfl w.heap.size 3 i1 (.int .i64 0) 1 8 Tryz.underlying46 hi1 hy0 hy1 hy2 rfl (by decide) (.slice a2 q cap2) q (intVals (natI l)) rfl hO ⟨g, 0, none⟩ 1 1 [.int .i64 (pCount 5 s st).1] rfl rfl hnews (by simp [Value.oneCell']) (by unfold maxLen; omega) (by omega) hJ.2.2.1.2.2.2.1 ?_
      intro v' w25 hown' hgrow _
      obtain ⟨g', cap', rfl⟩ := ownsRow_succ hown'
      have J25 := hJ.grown hgrow (row_ne hO hbl) (row_ne hO hkl) (fun z e => (hO.lt z e).1)
      have c5' := J25.at 5 (.slice a2 q cap2) rfl
      have f5' := J25.free 5
      have J26 : JR s b k 98 w #[.int .u64 0, .int .i64 0, .int .u64 0, .int .u64 n0, .int .u64 n1, (.slice (some ⟨g', 0, none⟩) (q + 1) cap'), .slice none 0 0, .string { data := #[] }, .int .u64 0] _ (w25.setCell ⟨k, 5, none⟩ (.slice (some ⟨g', 0, none⟩) (q + 1) cap')) := J25.set 5 _
      clear hJ hO hg hnews J25 hgrow
      refine ⟨trivial, ?_⟩
      simp only [Act.put, List.setIfInBounds_toArray, List.set_cons_zero, List.set_cons_succ]
      refine wpAnyH_takeD (i := 10) (d := 33) (v := .pointer (some ⟨k, 0, none⟩)) rfl rfl rfl (by kernel_rfl) (by kernel_rfl) (by kernel_rfl) (fun _ _ _ _ h => h) ?h10 trivial ?_
      case h10 => intro w _; go_simp
      simp only [Act.put, List.setIfInBounds_toArray, List.set_cons_zero, List.set_cons_succ]
      refine wpAnyH_takeD (i := 11) (d := 34) (v := .pointer (some ⟨k, 3, none⟩)) rfl rfl rfl (by kernel_rfl) (by kernel_rfl) (by kernel_rfl) (fun _ _ _ _ h => h) ?h11 trivial ?_
      case h11 => intro w _; go_simp
      simp only [Act.put, List.setIfInBounds_toArray, List.set_cons_zero, List.set_cons_succ]
      refine wpAnyH_takeD (i := 12) (d := 35) (v := .pointer (some ⟨k, 5, none⟩)) rfl rfl rfl (by kernel_rfl) (by kernel_rfl) (by kernel_rfl) (fun _ _ _ _ h => h) ?h12 trivial ?_
      case h12 => intro w _; go_simp
      simp only [Act.put, List.setIfInBounds_toArray, List.set_cons_zero, List.set_cons_succ]
      refine wpAnyH_one (i := 13) rfl rfl (by kernel_rfl) ?_
      go_simp
      refine ⟨by kernel_rfl, ?_⟩
      have HJ26 := hid J26
      have HO26 := hid (hown'.kept (grown_set w25 k 5 (.slice (some ⟨g', 0, none⟩) (q + 1) cap')) (.inr (row_ne hown' hkl)))
      clear J26 hown' c5' f5'
      go_wp2_with fail
      go_roundw
      case rel =>
        refine ⟨q + 1, .slice (some ⟨g', 0, none⟩) (q + 1) cap', by go_num, by omega, ?_, ?_⟩
        · rw [HM.out]
          exact HJ26.out
        · rw [HM.out]
          have : natI (l ++ [(pCount 5 s st).1]) = natI l ++ [((pCount 5 s st).1 : Int)] := by simp [natI]
          simp only [this, intVals_snoc]
          exact HO26.out
      case measure => simp [intOf]; omega
    · obtain rfl : q = nc := by omega
      rw [EM.out] at J ho
      simp only at J ho
      have hln : (natI lc).length = q := by simp [natI, hlc]
      have HLN := hid hln
      go_wp2_with fail
      refine Calls.mono (jrNum hs EZ.out J) ?_
      rintro e w30 ⟨rfl, J30, ho30⟩
      have f8 := J30.free 8
      have c8 := J30.at 8 (.int .u64 0) rfl
      have J31 : JR s b k 98 w #[.int .u64 0, .int .i64 0, .int .u64 0, .int .u64 n0, .int .u64 n1, (.slice a2 q cap2), .slice none 0 0, .string { data := #[] }, .int .u64 z] st5 (w30.setCell ⟨k, 8, none⟩ (.int .u64 z)) := J30.set 8 _
      have O30 := ho.kept ho30 (.inr (row_ne ho hbl))
      have O31 := O30.kept (grown_set w30 k 8 (.int .u64 z)) (.inr (row_ne O30 hkl))
      have HC : Hid (Cells [] (w30.setCell ⟨k, 8, none⟩ (.int .u64 z)) (.slice a2 q cap2) (natI lc).length (intVals (natI lc))) := hid (by rw [hln]; exact Cells.of_row (D := []) O31 (by simp))
      have d3 := J31.at 3 (.int .u64 n0) rfl
      have d5 := J31.at 5 (.slice a2 q cap2) rfl
      have d8 := J31.at 8 (.int .u64 z) rfl
      have HJ31 := hid J31
      have HO31 := hid O31
      clear J ho J30 ho30 J31 O30 O31 hln
      go_wp2_with fail
      have hm := HLN.out
      refine Calls.mono (members_any (natI lc) _ [] _ HC.out (by omega)) ?_
      rintro e w32 ⟨rfl, rfl⟩
      by_cases hm1 : members (natI lc) = true
      · rw [hm1]
        by_cases hm2 : n0 ≤ 4611686018427387904
        · by_cases hm3 : z ≤ 262144
          · as_aux_lemma =>
            have hok : baseOk n0 lc z = true := by unfold baseOk; simp [hm1, hm2, hm3]
            have HOK := hid hok
            clear hok
            go_wp2_with fail
            refine Calls.mono (must_yes (by simp; try omega) _) ?_
            rintro e w33 ⟨rfl, rfl⟩
            go_wp2_with fail
            go_end0
            rw [HOK.out]
            exact ⟨rfl, _, by rw [hlc]; exact HO31.out, HJ31.out⟩
          · as_aux_lemma =>
            have hok : baseOk n0 lc z = false := by unfold baseOk; simp [hm1, hm2, hm3]
            have HOK := hid hok
            clear hok
            go_wp2_with fail
            refine Calls.mono (must_no (by simp; try omega) _) ?_
            rintro e w33 ⟨rfl, rfl⟩
            go_wp2_with fail
            refine bodyPost_panic rfl ?_
            rw [HOK.out]
            exact ⟨rfl, _, by rw [hlc]; exact HO31.out, HJ31.out⟩
        · as_aux_lemma =>
          have hok : baseOk n0 lc z = false := by unfold baseOk; simp [hm1, hm2]
          have HOK := hid hok
          clear hok
          go_wp2_with fail
          refine Calls.mono (must_no (by simp; try omega) _) ?_
          rintro e w33 ⟨rfl, rfl⟩
          go_wp2_with fail
          refine bodyPost_panic rfl ?_
          rw [HOK.out]
          exact ⟨rfl, _, by rw [hlc]; exact HO31.out, HJ31.out⟩
      · rw [Bool.not_eq_true] at hm1
        rw [hm1]
        have hok : baseOk n0 lc z = false := by unfold baseOk; simp [hm1]
        have HOK := hid hok
        clear hok
        go_wp2_with fail
        refine Calls.mono (must_no (by simp; try omega) _) ?_
        rintro e w33 ⟨rfl, rfl⟩
        go_wp2_with fail
        refine bodyPost_panic rfl ?_
        rw [HOK.out]
        exact ⟨rfl, _, by rw [hlc]; exact HO31.out, HJ31.out⟩
end Go.Proofs.YtmehcogaopackaaGreat
