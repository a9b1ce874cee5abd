/-
  Arguments opened: a call of a script, and a slice of them.
-/
import Derived.Test.YtmehcogaopackaaJRec2
import Derived.SliceStrings
import Derived.ChangeSlices
import Derived.Deep.Slices
import Derived.Deep.Fields
import Derived.ChangeSame
import Derived.WalkKit
import Derived.ProofKit
import Derived.OpenShut
import Derived.ShutString
import Derived.ChangeOld
namespace Go.Proofs.Ytmehcogaopackaa
open Go.RowKit Go.ChangeShapes Go.WideShapes Go.Deep
set_option linter.unusedVariables false
variable {H : Type} {enc : TypeId × Value → H} {w : World} {base : Nat} {spare : Nat → Bool} {held : Bool}
theorem wf64 {z : Int} (h : (Lit.int .u64 z).wf = true) : ∃ n : Nat, z = n ∧ n < top64 := by
  have h1 : 0 ≤ z ∧ z ≤ 18446744073709551615 := by simpa [Lit.wf, IntKind.min, IntKind.max, IntKind.signed, IntKind.bits] using h
  exact ⟨z.toNat, by omega, by unfold top64; omega⟩
theorem addr_form {w : World} {x : Addr} {i : Nat} {v : Value} (h : w.cell? (x.add i) = some v) (hi : i = 0) : ∃ b off, x = ⟨b, off, none⟩ := by
  subst hi
  obtain ⟨b, off, spot⟩ := x
  have hs : spot = none := by simpa [Addr.add] using World.cell?_spot h
  subst hs
  exact ⟨b, off, rfl⟩
theorem open_confs {fuel : Nat} {v : Value} {x : DataW H × List MemPlace} (h : DataW.trod enc Try.prog w base spare held fuel 26 [v] = some x) : ∃ l : List Int, Cells [] w v l.length (intVals l) ∧ l.length ≤ maxLen := by
  rcases open_ints Try.underlying26 Try.underlying3 (by kernel_rfl) h with ⟨hcs, _⟩ | ⟨a, len, cap, zs, hcs, _, hl, hm, hz, hx, hcell, hwz⟩
  · simp only [List.cons.injEq, and_true] at hcs
    subst hcs
    exact ⟨[], Cells.nil _ _, Nat.zero_le _⟩
  · simp only [List.cons.injEq, and_true] at hcs
    subst hcs
    have hzl : len ≤ zs.length := by rw [hz]; split <;> omega
    have hnl : (zs.take len).length = len := by rw [List.length_take]; omega
    refine ⟨zs.take len, ?_, by rw [hnl]; omega⟩
    refine ⟨some a, cap, by rw [hnl], by rw [hnl]; exact hl, fun hp => ?_⟩
    rw [intVals_len, hnl] at hp
    obtain ⟨b, off, rfl⟩ := addr_form (hcell 0 (by omega)) rfl
    refine ⟨b, off, rfl, by simp, fun j hj => ?_⟩
    rw [intVals_len, hnl] at hj
    have := hcell j (by omega)
    rw [add_plain] at this
    rw [this]
    simp [intVals, List.getD_eq_getElem?_getD, List.getElem?_eq_getElem (show j < zs.length by omega)]
/-- a slice of structs of one-cell fields, opened -/
theorem open_structs {t e : TypeId} {fs : Array Field} {fuel : Nat} {v : Value} {x : DataW H × List MemPlace} (ht : Try.prog.underlying t = some (.slice e)) (he : Try.prog.underlying e = some (.struct fs))
    (hone : oneCellFields Try.prog fs = true) (hC : Try.prog.cellsOf e = fs.size) (h : DataW.trod enc Try.prog w base spare held fuel t [v] = some x) :
    v = .slice none 0 0 ∨
    ∃ (a : Addr) (len cap : Nat), v = .slice (some a) len cap ∧ len ≤ cap ∧ cap ≤ maxLen ∧
      ∀ i, i < len → ∀ (j : Nat) (f : Field), fs[j]? = some f → ∃ (u : Value) (n : Nat) (y : DataW H × List MemPlace), w.cell? (a.add (i * fs.size + j)) = some u ∧ DataW.trod enc Try.prog w base spare held n f.type [u] = some y := by
  rcases open_slice ht h with h0 | ⟨a, len, cap, m, n, D, Pl, hcs, hb, hl, hm, hmm, hx, hi⟩
  · left
    have := h0.1
    simpa using this
  · right
    simp only [List.cons.injEq, and_true] at hcs
    refine ⟨a, len, cap, hcs, hl, hm, fun i hil j f hj => ?_⟩
    have him : i < m := by rw [hmm]; split <;> omega
    obtain ⟨cs', hc, ht'⟩ := hi i him
    rw [hC] at hc
    obtain ⟨ys, n', hn', hy, hlen, hyl, hf⟩ := DataW.trod_struct he ht'
    obtain ⟨_, hcl, hat⟩ := World.cells?_some hc
    obtain ⟨ho, hk⟩ := hone_of hone j f hj
    have hjl : j < fs.size := (Array.getElem?_eq_some_iff.1 hj).1
    have hcell := hat j hjl
    have hv : cs'[j]? = some (cs'[j]'(by omega)) := List.getElem?_eq_getElem (by omega)
    have h1 := hf j f hj
    rw [ho, hk] at h1
    have hone' : (cs'.drop j).take 1 = [cs'[j]'(by omega)] := by
      rw [List.drop_eq_getElem_cons (by omega)]
      rfl
    rw [hone'] at h1
    have hys : ys[j]? = some (ys[j]'(by omega)) := List.getElem?_eq_getElem (by omega)
    refine ⟨_, n', _, ?_, h1.trans hys⟩
    rw [← Go.Deep.add_add, hcell, hv]
theorem open_ens {fuel : Nat} {v : Value} {x : DataW H × List MemPlace} (h : DataW.trod enc Try.prog w base spare held fuel 27 [v] = some x) : ∃ l : List En, Cells [] w v l.length (enVals l) ∧ l.length ≤ maxLen ∧ (∀ e ∈ l, e.term < top64 ∧ e.data.length ≤ maxLen) := by
  rcases open_structs Try.underlying27 Try.underlying50 (by kernel_rfl) (by kernel_rfl) h with rfl | ⟨a, len, cap, rfl, hl, hm, hi⟩
  · exact ⟨[], Cells.nil _ _, Nat.zero_le _, fun f hf => by simp at hf⟩
  · have key : ∀ i, i < len → ∃ r : Nat × Int × Bytes, (w.cell? (a.add (i * 3)) = some (.int .u64 r.1) ∧ w.cell? (a.add (i * 3 + 1)) = some (.int .i64 r.2.1) ∧ w.cell? (a.add (i * 3 + 2)) = some (.string (str r.2.2))) ∧ r.1 < top64 ∧ r.2.2.length ≤ maxLen := by
      intro i hil
      obtain ⟨u0, n0, y0, c0, t0⟩ := hi i hil 0 _ rfl
      obtain ⟨u1, n1, y1, c1, t1⟩ := hi i hil 1 _ rfl
      obtain ⟨u2, n2, y2, c2, t2⟩ := hi i hil 2 _ rfl
      obtain ⟨z0, e0, _, f0⟩ := DataW.trod_int Try.underlying23 t0
      obtain ⟨z1, e1, _, f1⟩ := DataW.trod_int Try.underlying3 t1
      obtain ⟨z2, e2, _, f2⟩ := DataW.trod_string Try.underlying9 t2
      simp only [List.cons.injEq, and_true] at e0 e1 e2
      obtain ⟨m0, rfl, g0⟩ := wf64 f0
      subst e0 e1 e2
      exact ⟨(m0, z1, z2.data.toList), ⟨c0, c1, by rw [str_of]; exact c2⟩, g0, by rw [len_of]; exact f2⟩
    obtain ⟨f, hf⟩ := choose_lt key
    have hnl : ((List.range len).map fun i => (⟨(f i).1, (f i).2.1, (f i).2.2⟩ : En)).length = len := by simp
    refine ⟨(List.range len).map fun i => (⟨(f i).1, (f i).2.1, (f i).2.2⟩ : En), ?_, by rw [hnl]; omega, fun r hr => ?_⟩
    · refine ⟨some a, cap, by rw [hnl], by rw [hnl]; exact hl, fun hp => ?_⟩
      rw [enVals_len, hnl] at hp
      obtain ⟨b, off, rfl⟩ := addr_form (hf 0 (by omega)).1.1 (by omega)
      refine ⟨b, off, rfl, by simp, fun j hj => ?_⟩
      rw [enVals_len, hnl] at hj
      have hij : j / 3 < ((List.range len).map fun i => (⟨(f i).1, (f i).2.1, (f i).2.2⟩ : En)).length := by rw [hnl]; omega
      have h1 := enVals_at ((List.range len).map fun i => (⟨(f i).1, (f i).2.1, (f i).2.2⟩ : En)) (j / 3) hij
      have h2 := (hf (j / 3) (by omega)).1
      rw [add_plain, add_plain, add_plain] at h2
      rw [List.getElem_map, List.getElem_range] at h1
      simp only at h1
      rcases (by omega : j % 3 = 0 ∨ j % 3 = 1 ∨ j % 3 = 2) with hj0 | hj0 | hj0
      · have e : j / 3 * 3 = j := by omega
        rw [e] at h1 h2
        rw [h2.1, ← h1.1]
        rw [List.getElem?_eq_getElem]
      · have e : j / 3 * 3 + 1 = j := by omega
        rw [e] at h1 h2
        rw [h2.2.1, ← h1.2.1]
        rw [List.getElem?_eq_getElem]
      · have e : j / 3 * 3 + 2 = j := by omega
        rw [e] at h1 h2
        rw [h2.2.2, ← h1.2.2]
        rw [List.getElem?_eq_getElem]
    · obtain ⟨i, hi2, rfl⟩ := List.mem_map.1 hr
      exact (hf i (by simpa using hi2)).2
/-- a struct of one-cell fields: each field's reading -/
theorem field_at {t : TypeId} {fs : Array Field} {fuel : Nat} {cs : List Value} {x : DataW H × List MemPlace} (hs : Try.prog.underlying t = some (.struct fs)) (hone : oneCellFields Try.prog fs = true) (h : DataW.trod enc Try.prog w base spare held fuel t cs = some x) :
    ∃ n, ∀ (j : Nat) (f : Field) (c : Value), fs[j]? = some f → cs[j]? = some c → ∃ y, DataW.trod enc Try.prog w base spare held n f.type [c] = some y := by
  obtain ⟨ys, n', hn', hy, hlen, hyl, hf⟩ := DataW.trod_struct hs h
  refine ⟨n', fun j f c hj hc => ?_⟩
  obtain ⟨ho, hk⟩ := hone_of hone j f hj
  have hjl : j < fs.size := (Array.getElem?_eq_some_iff.1 hj).1
  obtain ⟨hjc, e⟩ := List.getElem?_eq_some_iff.1 hc
  have h1 := hf j f hj
  rw [ho, hk] at h1
  have hone' : (cs.drop j).take 1 = [c] := by
    rw [List.drop_eq_getElem_cons hjc, e]
    rfl
  rw [hone'] at h1
  have hys : ys[j]? = some (ys[j]'(by omega)) := List.getElem?_eq_getElem (by omega)
  exact ⟨_, h1.trans hys⟩
/-- a call of a script -/
structure Ac where
  kind : Int
  n : Int
  fr : Nat
  hard : Hd
  log : Lg
  image : Bytes
instance : Inhabited Ac := ⟨⟨0, 0, 0, ⟨0, 0, 0⟩, ⟨0, 0, [], []⟩, []⟩⟩
/-- its cells -/
def Ac.vals (a : Ac) (vc vl : Value) : List Value := [.int .i64 a.kind, .int .i64 a.n, .int .u64 a.fr, .int .u64 a.hard.term, .int .i64 a.hard.vote, .int .u64 a.hard.life, .int .u64 a.log.base, .int .u64 a.log.bterm, vc, vl, .string (str a.image)]
/-- a call that came in -/
def AcArg (a : Ac) (vc vl : Value) (w : World) : Prop := Cells [] w vc a.log.conf.length (intVals a.log.conf) ∧ Cells [] w vl a.log.l.length (enVals a.log.l) ∧ a.fr < top64 ∧ a.hard.term < top64 ∧ a.hard.life < top64 ∧ a.log.base < top64 ∧ a.log.bterm < top64 ∧
  (∀ e ∈ a.log.l, e.term < top64 ∧ e.data.length ≤ maxLen) ∧ a.log.conf.length ≤ maxLen ∧ a.log.l.length ≤ maxLen ∧ a.image.length ≤ maxLen
/-- a struct's fields -/
theorem fields_at {t : TypeId} {fs : Array Field} {fuel : Nat} {cs : List Value} {x : DataW H × List MemPlace} (hs : Try.prog.underlying t = some (.struct fs)) (h : DataW.trod enc Try.prog w base spare held fuel t cs = some x) :
    ∃ n, ∀ (j : Nat) (f : Field), fs[j]? = some f → ∃ y, DataW.trod enc Try.prog w base spare held n f.type ((cs.drop f.offset).take (Try.prog.cellsOf f.type)) = some y := by
  obtain ⟨ys, n', hn', hy, hlen, hyl, hf⟩ := DataW.trod_struct hs h
  refine ⟨n', fun j f hj => ?_⟩
  have hjl : j < fs.size := (Array.getElem?_eq_some_iff.1 hj).1
  have h1 := hf j f hj
  have hys : ys[j]? = some (ys[j]'(by omega)) := List.getElem?_eq_getElem (by omega)
  exact ⟨_, h1.trans hys⟩
theorem cellsHard : Try.prog.cellsOf 25 = 3 := by kernel_rfl
theorem cellsLog : Try.prog.cellsOf 29 = 4 := by kernel_rfl
theorem cellsInt : Try.prog.cellsOf 3 = 1 := by kernel_rfl
theorem cellsU64 : Try.prog.cellsOf 23 = 1 := by kernel_rfl
theorem cellsStr : Try.prog.cellsOf 9 = 1 := by kernel_rfl
theorem cellsAct : Try.prog.cellsOf 31 = 11 := by kernel_rfl
set_option maxRecDepth 100000 in
theorem act_cells {fuel : Nat} {cs : List Value} {x : DataW H × List MemPlace} (hl : cs.length = 11) (h : DataW.trod enc Try.prog w base spare held fuel 31 cs = some x) : ∃ (a : Ac) (vc vl : Value), cs = a.vals vc vl ∧ AcArg a vc vl w := by
  match cs, hl with
  | [c0, c1, c2, c3, c4, c5, c6, c7, c8, c9, c10], _ =>
    obtain ⟨n, hF⟩ := fields_at Try.underlying31 h
    obtain ⟨y0, t0⟩ := hF 0 _ rfl
    obtain ⟨y1, t1⟩ := hF 1 _ rfl
    obtain ⟨y2, t2⟩ := hF 2 _ rfl
    obtain ⟨y3, t3⟩ := hF 3 _ rfl
    obtain ⟨y4, t4⟩ := hF 4 _ rfl
    obtain ⟨y5, t5⟩ := hF 5 _ rfl
    replace t0 : DataW.trod enc Try.prog w base spare held n 3 (([c0, c1, c2, c3, c4, c5, c6, c7, c8, c9, c10].drop 0).take (Try.prog.cellsOf 3)) = some y0 := t0
    rw [cellsInt] at t0
    replace t1 : DataW.trod enc Try.prog w base spare held n 3 (([c0, c1, c2, c3, c4, c5, c6, c7, c8, c9, c10].drop 1).take (Try.prog.cellsOf 3)) = some y1 := t1
    rw [cellsInt] at t1
    replace t2 : DataW.trod enc Try.prog w base spare held n 23 (([c0, c1, c2, c3, c4, c5, c6, c7, c8, c9, c10].drop 2).take (Try.prog.cellsOf 23)) = some y2 := t2
    rw [cellsU64] at t2
    replace t3 : DataW.trod enc Try.prog w base spare held n 25 (([c0, c1, c2, c3, c4, c5, c6, c7, c8, c9, c10].drop 3).take (Try.prog.cellsOf 25)) = some y3 := t3
    rw [cellsHard] at t3
    replace t4 : DataW.trod enc Try.prog w base spare held n 29 (([c0, c1, c2, c3, c4, c5, c6, c7, c8, c9, c10].drop 6).take (Try.prog.cellsOf 29)) = some y4 := t4
    rw [cellsLog] at t4
    replace t5 : DataW.trod enc Try.prog w base spare held n 9 (([c0, c1, c2, c3, c4, c5, c6, c7, c8, c9, c10].drop 10).take (Try.prog.cellsOf 9)) = some y5 := t5
    rw [cellsStr] at t5
    simp only [List.drop_succ_cons, List.drop_zero, List.take_succ_cons, List.take_zero] at t0 t1 t2 t3 t4 t5
    obtain ⟨z0, e0, _, f0⟩ := DataW.trod_int Try.underlying3 t0
    obtain rfl : c0 = .int .i64 z0 := by simpa using e0
    obtain ⟨z1, e1, _, f1⟩ := DataW.trod_int Try.underlying3 t1
    obtain rfl : c1 = .int .i64 z1 := by simpa using e1
    obtain ⟨w2, e2, _, f2⟩ := DataW.trod_int Try.underlying23 t2
    obtain rfl : c2 = .int .u64 w2 := by simpa using e2
    obtain ⟨z2, rfl, g2⟩ := wf64 f2
    obtain ⟨n3, hH⟩ := field_at Try.underlying25 (by kernel_rfl) t3
    obtain ⟨y30, t30⟩ := hH 0 _ c3 rfl rfl
    obtain ⟨w3, e3, _, f3⟩ := DataW.trod_int Try.underlying23 t30
    obtain rfl : c3 = .int .u64 w3 := by simpa using e3
    obtain ⟨z3, rfl, g3⟩ := wf64 f3
    obtain ⟨y31, t31⟩ := hH 1 _ c4 rfl rfl
    obtain ⟨z4, e4, _, f4⟩ := DataW.trod_int Try.underlying3 t31
    obtain rfl : c4 = .int .i64 z4 := by simpa using e4
    obtain ⟨y32, t32⟩ := hH 2 _ c5 rfl rfl
    obtain ⟨w5, e5, _, f5⟩ := DataW.trod_int Try.underlying23 t32
    obtain rfl : c5 = .int .u64 w5 := by simpa using e5
    obtain ⟨z5, rfl, g5⟩ := wf64 f5
    obtain ⟨n4, hL⟩ := field_at Try.underlying29 (by kernel_rfl) t4
    obtain ⟨y40, t40⟩ := hL 0 _ c6 rfl rfl
    obtain ⟨w6, e6, _, f6⟩ := DataW.trod_int Try.underlying23 t40
    obtain rfl : c6 = .int .u64 w6 := by simpa using e6
    obtain ⟨z6, rfl, g6⟩ := wf64 f6
    obtain ⟨y41, t41⟩ := hL 1 _ c7 rfl rfl
    obtain ⟨w7, e7, _, f7⟩ := DataW.trod_int Try.underlying23 t41
    obtain rfl : c7 = .int .u64 w7 := by simpa using e7
    obtain ⟨z7, rfl, g7⟩ := wf64 f7
    obtain ⟨y42, t42⟩ := hL 2 _ c8 rfl rfl
    obtain ⟨z8, h8, k8⟩ := open_confs t42
    obtain ⟨y43, t43⟩ := hL 3 _ c9 rfl rfl
    obtain ⟨z9, h9, k9, m9⟩ := open_ens t43
    obtain ⟨z10, e10, _, f10⟩ := DataW.trod_string Try.underlying9 t5
    obtain rfl : c10 = .string z10 := by simpa using e10
    refine ⟨⟨z0, z1, z2, ⟨z3, z4, z5⟩, ⟨z6, z7, z8, z9⟩, z10.data.toList⟩, c8, c9, ?_, h8, h9, g2, g3, g5, g6, g7, m9, k8, k9, by show (z10.data.toList).length ≤ maxLen; rw [len_of]; exact f10⟩
    unfold Ac.vals
    simp only [str_of]
set_option maxRecDepth 100000 in
theorem act_arg {r : Reach} {b0 : Nat} {v : Value} {d : DataW H} {p : List MemPlace} (hv : Value.okWide Try.prog w r b0 31 v) (h : DataW.Trod enc Try.prog w base spare held 31 v d p) :
    ∃ (a : Ac) (vc vl : Value), v = .agg (a.vals vc vl).toArray ∧ AcArg a vc vl w := by
  obtain ⟨cs, rfl, hsz⟩ := okWide_struct Try.underlying31 hv
  obtain ⟨fuel, hf⟩ := h
  obtain ⟨a, vc, vl, e, ha⟩ := act_cells (cs := cs.toList) (by rw [Array.length_toList, hsz, cellsAct]) hf
  exact ⟨a, vc, vl, by rw [← e], ha⟩
/-- the calls of a script, as they came in -/
def AcsArg (l : List Ac) (v : Value) (w : World) : Prop := ∃ (x : Option Addr) (cap : Nat), v = .slice x l.length cap ∧ l.length ≤ cap ∧ cap ≤ maxLen ∧ (0 < l.length → ∃ b off, x = some ⟨b, off, none⟩ ∧ ∀ j (hj : j < l.length), ∃ vc vl, AcArg l[j] vc vl w ∧ ∀ k u, (l[j].vals vc vl)[k]? = some u → w.cell? ⟨b, off + j * 11 + k, none⟩ = some u)
set_option maxRecDepth 100000 in
theorem acts_open {fuel : Nat} {v : Value} {x : DataW H × List MemPlace} (h : DataW.trod enc Try.prog w base spare held fuel 22 [v] = some x) : ∃ l : List Ac, AcsArg l v w := by
  rcases open_slice Try.underlying22 h with h0 | ⟨a, len, cap, m, n, D, Pl, hcs, hb, hl, hm, hmm, hx, hi⟩
  · have hv : v = .slice none 0 0 := by have := h0.1; simpa using this
    subst hv
    exact ⟨[], none, 0, rfl, Nat.le_refl _, Nat.zero_le _, fun hp => by simp at hp⟩
  · simp only [List.cons.injEq, and_true] at hcs
    subst hcs
    have key : ∀ i, i < len → ∃ r : Ac × Value × Value, AcArg r.1 r.2.1 r.2.2 w ∧ ∀ k u, (r.1.vals r.2.1 r.2.2)[k]? = some u → w.cell? (a.add (i * 11 + k)) = some u := by
      intro i hil
      have him : i < m := by rw [hmm]; split <;> omega
      obtain ⟨cs', hc, ht'⟩ := hi i him
      rw [cellsAct] at hc
      obtain ⟨_, hcl, hat⟩ := World.cells?_some hc
      obtain ⟨r, vc, vl, rfl, hr⟩ := act_cells hcl ht'
      refine ⟨(r, vc, vl), hr, fun k u hu => ?_⟩
      obtain ⟨hk, e⟩ := List.getElem?_eq_some_iff.1 hu
      have hk' : k < 11 := hk
      have hcell := hat k (by omega)
      rw [← Go.Deep.add_add, hcell, hu]
    obtain ⟨f, hf⟩ := choose_lt key
    have hnl : ((List.range len).map fun i => (f i).1).length = len := by simp
    refine ⟨(List.range len).map fun i => (f i).1, some a, cap, by rw [hnl], by rw [hnl]; exact hl, hm, fun hp => ?_⟩
    rw [hnl] at hp
    obtain ⟨b, off, rfl⟩ := addr_form ((hf 0 hp).2 0 _ rfl) (by omega)
    refine ⟨b, off, rfl, fun j hj => ?_⟩
    rw [hnl] at hj
    refine ⟨(f j).2.1, (f j).2.2, ?_, fun k u hu => ?_⟩
    · rw [List.getElem_map, List.getElem_range]
      exact (hf j hj).1
    · rw [List.getElem_map, List.getElem_range] at hu
      have h2 := (hf j hj).2 k u hu
      rw [add_plain] at h2
      rw [show off + j * 11 + k = off + (j * 11 + k) by omega]
      exact h2
set_option maxRecDepth 100000 in
theorem acts_arg {r : Reach} {b0 : Nat} {v : Value} {d : DataW H} {p : List MemPlace} (hv : Value.okWide Try.prog w r b0 22 v) (h : DataW.Trod enc Try.prog w base spare held 22 v d p) :
    ∃ (l : List Ac), AcsArg l v w := by
  obtain ⟨a, len, cap, rfl⟩ := okWide_slice Try.underlying22 hv
  obtain ⟨fuel, hf⟩ := h
  exact acts_open hf
end Go.Proofs.Ytmehcogaopackaa
