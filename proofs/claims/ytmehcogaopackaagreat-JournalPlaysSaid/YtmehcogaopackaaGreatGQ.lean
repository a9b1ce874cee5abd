/-
  The walk of the law's run. (Several texts in one.)
-/
import Derived.SliceStrings
import Derived.ChangeSlices
import Derived.Deep.Slices
import Derived.Deep.Fields
import Derived.ChangeSame
import Derived.WalkKit
import Derived.ProofKit
import Derived.OpenShut
import Derived.ShutString
import Derived.ChangeOld
import Derived.Test.YtmehcogaopackaaGreatGE
import Derived.Test.YtmehcogaopackaaGreatJRebase
/- Arguments opened: a call of a script, and a slice of them. -/
namespace Go.Proofs.YtmehcogaopackaaGreat
open Go.RowKit Go.ChangeShapes Go.WideShapes Go.Deep
set_option linter.unusedVariables false
variable {H : Type} {enc : TypeId × Value → H} {w : World} {base : Nat} {spare : Nat → Bool} {held : Bool}
theorem wf64 {z : Int} (h : (Lit.int .u64 z).wf = true) : ∃ n : Nat, z = n ∧ n < top64 := by
  have h1 : 0 ≤ z ∧ z ≤ 18446744073709551615 := by simpa [Lit.wf, IntKind.min, IntKind.max, IntKind.signed, IntKind.bits] using h
  exact ⟨z.toNat, by omega, by unfold top64; omega⟩
theorem wfI64 {z : Int} (h : (Lit.int .i64 z).wf = true) : -9223372036854775808 ≤ z ∧ z ≤ 9223372036854775807 := by
  simpa [Lit.wf, IntKind.min, IntKind.max, IntKind.signed, IntKind.bits] using h
theorem addr_form {w : World} {x : Addr} {i : Nat} {v : Value} (h : w.cell? (x.add i) = some v) (hi : i = 0) : ∃ b off, x = ⟨b, off, none⟩ := by
  subst hi
  obtain ⟨b, off, spot⟩ := x
  have hs : spot = none := by simpa [Addr.add] using World.cell?_spot h
  subst hs
  exact ⟨b, off, rfl⟩
theorem open_confs {fuel : Nat} {v : Value} {x : DataW H × List MemPlace} (h : DataW.trod enc Tryz.prog w base spare held fuel 46 [v] = some x) : ∃ l : List Int, Cells [] w v l.length (intVals l) ∧ l.length ≤ maxLen := by
  rcases open_ints Tryz.underlying46 Tryz.underlying3 (by kernel_rfl) h with ⟨hcs, _⟩ | ⟨a, len, cap, zs, hcs, _, hl, hm, hz, hx, hcell, hwz⟩
  · simp only [List.cons.injEq, and_true] at hcs
    subst hcs
    exact ⟨[], Cells.nil _ _, Nat.zero_le _⟩
  · simp only [List.cons.injEq, and_true] at hcs
    subst hcs
    have hzl : len ≤ zs.length := by rw [hz]; split <;> omega
    have hnl : (zs.take len).length = len := by rw [List.length_take]; omega
    refine ⟨zs.take len, ?_, by rw [hnl]; omega⟩
    refine ⟨some a, cap, by rw [hnl], by rw [hnl]; exact hl, fun hp => ?_⟩
    rw [intVals_len, hnl] at hp
    obtain ⟨b, off, rfl⟩ := addr_form (hcell 0 (by omega)) rfl
    refine ⟨b, off, rfl, by simp, fun j hj => ?_⟩
    rw [intVals_len, hnl] at hj
    have := hcell j (by omega)
    rw [add_plain] at this
    rw [this]
    simp [intVals, List.getD_eq_getElem?_getD, List.getElem?_eq_getElem (show j < zs.length by omega)]
/-- a slice of structs of one-cell fields, opened -/
theorem open_structs {t e : TypeId} {fs : Array Field} {fuel : Nat} {v : Value} {x : DataW H × List MemPlace} (ht : Tryz.prog.underlying t = some (.slice e)) (he : Tryz.prog.underlying e = some (.struct fs))
    (hone : oneCellFields Tryz.prog fs = true) (hC : Tryz.prog.cellsOf e = fs.size) (h : DataW.trod enc Tryz.prog w base spare held fuel t [v] = some x) :
    v = .slice none 0 0 ∨
    ∃ (a : Addr) (len cap : Nat), v = .slice (some a) len cap ∧ len ≤ cap ∧ cap ≤ maxLen ∧
      ∀ i, i < len → ∀ (j : Nat) (f : Field), fs[j]? = some f → ∃ (u : Value) (n : Nat) (y : DataW H × List MemPlace), w.cell? (a.add (i * fs.size + j)) = some u ∧ DataW.trod enc Tryz.prog w base spare held n f.type [u] = some y := by
  rcases open_slice ht h with h0 | ⟨a, len, cap, m, n, D, Pl, hcs, hb, hl, hm, hmm, hx, hi⟩
  · left
    have := h0.1
    simpa using this
  · right
    simp only [List.cons.injEq, and_true] at hcs
    refine ⟨a, len, cap, hcs, hl, hm, fun i hil j f hj => ?_⟩
    have him : i < m := by rw [hmm]; split <;> omega
    obtain ⟨cs', hc, ht'⟩ := hi i him
    rw [hC] at hc
    obtain ⟨ys, n', hn', hy, hlen, hyl, hf⟩ := DataW.trod_struct he ht'
    obtain ⟨_, hcl, hat⟩ := World.cells?_some hc
    obtain ⟨ho, hk⟩ := hone_of hone j f hj
    have hjl : j < fs.size := (Array.getElem?_eq_some_iff.1 hj).1
    have hcell := hat j hjl
    have hv : cs'[j]? = some (cs'[j]'(by omega)) := List.getElem?_eq_getElem (by omega)
    have h1 := hf j f hj
    rw [ho, hk] at h1
    have hone' : (cs'.drop j).take 1 = [cs'[j]'(by omega)] := by
      rw [List.drop_eq_getElem_cons (by omega)]
      rfl
    rw [hone'] at h1
    have hys : ys[j]? = some (ys[j]'(by omega)) := List.getElem?_eq_getElem (by omega)
    refine ⟨_, n', _, ?_, h1.trans hys⟩
    rw [← Go.Deep.add_add, hcell, hv]
theorem open_ens {fuel : Nat} {v : Value} {x : DataW H × List MemPlace} (h : DataW.trod enc Tryz.prog w base spare held fuel 47 [v] = some x) : ∃ l : List En, Cells [] w v l.length (enVals l) ∧ l.length ≤ maxLen ∧ (∀ e ∈ l, e.term < top64 ∧ e.data.length ≤ maxLen) := by
  rcases open_structs Tryz.underlying47 Tryz.underlying116 (by kernel_rfl) (by kernel_rfl) h with rfl | ⟨a, len, cap, rfl, hl, hm, hi⟩
  · exact ⟨[], Cells.nil _ _, Nat.zero_le _, fun f hf => by simp at hf⟩
  · have key : ∀ i, i < len → ∃ r : Nat × Int × Bytes, (w.cell? (a.add (i * 3)) = some (.int .u64 r.1) ∧ w.cell? (a.add (i * 3 + 1)) = some (.int .i64 r.2.1) ∧ w.cell? (a.add (i * 3 + 2)) = some (.string (str r.2.2))) ∧ r.1 < top64 ∧ r.2.2.length ≤ maxLen := by
      intro i hil
      obtain ⟨u0, n0, y0, c0, t0⟩ := hi i hil 0 _ rfl
      obtain ⟨u1, n1, y1, c1, t1⟩ := hi i hil 1 _ rfl
      obtain ⟨u2, n2, y2, c2, t2⟩ := hi i hil 2 _ rfl
      obtain ⟨z0, e0, _, f0⟩ := DataW.trod_int Tryz.underlying43 t0
      obtain ⟨z1, e1, _, f1⟩ := DataW.trod_int Tryz.underlying3 t1
      obtain ⟨z2, e2, _, f2⟩ := DataW.trod_string Tryz.underlying9 t2
      simp only [List.cons.injEq, and_true] at e0 e1 e2
      obtain ⟨m0, rfl, g0⟩ := wf64 f0
      subst e0 e1 e2
      exact ⟨(m0, z1, z2.data.toList), ⟨c0, c1, by rw [str_of]; exact c2⟩, g0, by rw [len_of]; exact f2⟩
    obtain ⟨f, hf⟩ := choose_lt key
    have hnl : ((List.range len).map fun i => (⟨(f i).1, (f i).2.1, (f i).2.2⟩ : En)).length = len := by simp
    refine ⟨(List.range len).map fun i => (⟨(f i).1, (f i).2.1, (f i).2.2⟩ : En), ?_, by rw [hnl]; omega, fun r hr => ?_⟩
    · refine ⟨some a, cap, by rw [hnl], by rw [hnl]; exact hl, fun hp => ?_⟩
      rw [enVals_len, hnl] at hp
      obtain ⟨b, off, rfl⟩ := addr_form (hf 0 (by omega)).1.1 (by omega)
      refine ⟨b, off, rfl, by simp, fun j hj => ?_⟩
      rw [enVals_len, hnl] at hj
      have hij : j / 3 < ((List.range len).map fun i => (⟨(f i).1, (f i).2.1, (f i).2.2⟩ : En)).length := by rw [hnl]; omega
      have h1 := enVals_at ((List.range len).map fun i => (⟨(f i).1, (f i).2.1, (f i).2.2⟩ : En)) (j / 3) hij
      have h2 := (hf (j / 3) (by omega)).1
      rw [add_plain, add_plain, add_plain] at h2
      rw [List.getElem_map, List.getElem_range] at h1
      simp only at h1
      rcases (by omega : j % 3 = 0 ∨ j % 3 = 1 ∨ j % 3 = 2) with hj0 | hj0 | hj0
      · have e : j / 3 * 3 = j := by omega
        rw [e] at h1 h2
        rw [h2.1, ← h1.1]
        rw [List.getElem?_eq_getElem]
      · have e : j / 3 * 3 + 1 = j := by omega
        rw [e] at h1 h2
        rw [h2.2.1, ← h1.2.1]
        rw [List.getElem?_eq_getElem]
      · have e : j / 3 * 3 + 2 = j := by omega
        rw [e] at h1 h2
        rw [h2.2.2, ← h1.2.2]
        rw [List.getElem?_eq_getElem]
    · obtain ⟨i, hi2, rfl⟩ := List.mem_map.1 hr
      exact (hf i (by simpa using hi2)).2
/-- a struct of one-cell fields: each field's reading -/
theorem field_at {t : TypeId} {fs : Array Field} {fuel : Nat} {cs : List Value} {x : DataW H × List MemPlace} (hs : Tryz.prog.underlying t = some (.struct fs)) (hone : oneCellFields Tryz.prog fs = true) (h : DataW.trod enc Tryz.prog w base spare held fuel t cs = some x) :
    ∃ n, ∀ (j : Nat) (f : Field) (c : Value), fs[j]? = some f → cs[j]? = some c → ∃ y, DataW.trod enc Tryz.prog w base spare held n f.type [c] = some y := by
  obtain ⟨ys, n', hn', hy, hlen, hyl, hf⟩ := DataW.trod_struct hs h
  refine ⟨n', fun j f c hj hc => ?_⟩
  obtain ⟨ho, hk⟩ := hone_of hone j f hj
  have hjl : j < fs.size := (Array.getElem?_eq_some_iff.1 hj).1
  obtain ⟨hjc, e⟩ := List.getElem?_eq_some_iff.1 hc
  have h1 := hf j f hj
  rw [ho, hk] at h1
  have hone' : (cs.drop j).take 1 = [c] := by
    rw [List.drop_eq_getElem_cons hjc, e]
    rfl
  rw [hone'] at h1
  have hys : ys[j]? = some (ys[j]'(by omega)) := List.getElem?_eq_getElem (by omega)
  exact ⟨_, h1.trans hys⟩
/-- a call of a script -/
structure Ac where
  kind : Int
  n : Int
  fr : Nat
  hard : Hd
  log : Lg
  image : Bytes
instance : Inhabited Ac := ⟨⟨0, 0, 0, ⟨0, 0, 0⟩, ⟨0, 0, [], []⟩, []⟩⟩
/-- its cells -/
def Ac.vals (a : Ac) (vc vl : Value) : List Value := [.int .i64 a.kind, .int .i64 a.n, .int .u64 a.fr, .int .u64 a.hard.term, .int .i64 a.hard.vote, .int .u64 a.hard.life, .int .u64 a.log.base, .int .u64 a.log.bterm, vc, vl, .string (str a.image)]
/-- a call that came in -/
def AcArg (a : Ac) (vc vl : Value) (w : World) : Prop := Cells [] w vc a.log.conf.length (intVals a.log.conf) ∧ Cells [] w vl a.log.l.length (enVals a.log.l) ∧ a.fr < top64 ∧ a.hard.term < top64 ∧ a.hard.life < top64 ∧ a.log.base < top64 ∧ a.log.bterm < top64 ∧
  (∀ e ∈ a.log.l, e.term < top64 ∧ e.data.length ≤ maxLen) ∧ a.log.conf.length ≤ maxLen ∧ a.log.l.length ≤ maxLen ∧ a.image.length ≤ maxLen ∧ -9223372036854775808 ≤ a.n ∧ a.n ≤ 9223372036854775807
/-- a struct's fields -/
theorem fields_at {t : TypeId} {fs : Array Field} {fuel : Nat} {cs : List Value} {x : DataW H × List MemPlace} (hs : Tryz.prog.underlying t = some (.struct fs)) (h : DataW.trod enc Tryz.prog w base spare held fuel t cs = some x) :
    ∃ n, ∀ (j : Nat) (f : Field), fs[j]? = some f → ∃ y, DataW.trod enc Tryz.prog w base spare held n f.type ((cs.drop f.offset).take (Tryz.prog.cellsOf f.type)) = some y := by
  obtain ⟨ys, n', hn', hy, hlen, hyl, hf⟩ := DataW.trod_struct hs h
  refine ⟨n', fun j f hj => ?_⟩
  have hjl : j < fs.size := (Array.getElem?_eq_some_iff.1 hj).1
  have h1 := hf j f hj
  have hys : ys[j]? = some (ys[j]'(by omega)) := List.getElem?_eq_getElem (by omega)
  exact ⟨_, h1.trans hys⟩
theorem cellsHard : Tryz.prog.cellsOf 45 = 3 := by kernel_rfl
theorem cellsLog : Tryz.prog.cellsOf 49 = 4 := by kernel_rfl
theorem cellsInt : Tryz.prog.cellsOf 3 = 1 := by kernel_rfl
theorem cellsU64 : Tryz.prog.cellsOf 43 = 1 := by kernel_rfl
theorem cellsStr : Tryz.prog.cellsOf 9 = 1 := by kernel_rfl
theorem cellsAct : Tryz.prog.cellsOf 59 = 11 := by kernel_rfl
set_option maxRecDepth 100000 in
theorem act_cells {fuel : Nat} {cs : List Value} {x : DataW H × List MemPlace} (hl : cs.length = 11) (h : DataW.trod enc Tryz.prog w base spare held fuel 59 cs = some x) : ∃ (a : Ac) (vc vl : Value), cs = a.vals vc vl ∧ AcArg a vc vl w := by
  match cs, hl with
  | [c0, c1, c2, c3, c4, c5, c6, c7, c8, c9, c10], _ =>
    obtain ⟨n, hF⟩ := fields_at Tryz.underlying59 h
    obtain ⟨y0, t0⟩ := hF 0 _ rfl
    obtain ⟨y1, t1⟩ := hF 1 _ rfl
    obtain ⟨y2, t2⟩ := hF 2 _ rfl
    obtain ⟨y3, t3⟩ := hF 3 _ rfl
    obtain ⟨y4, t4⟩ := hF 4 _ rfl
    obtain ⟨y5, t5⟩ := hF 5 _ rfl
    replace t0 : DataW.trod enc Tryz.prog w base spare held n 3 (([c0, c1, c2, c3, c4, c5, c6, c7, c8, c9, c10].drop 0).take (Tryz.prog.cellsOf 3)) = some y0 := t0
    rw [cellsInt] at t0
    replace t1 : DataW.trod enc Tryz.prog w base spare held n 3 (([c0, c1, c2, c3, c4, c5, c6, c7, c8, c9, c10].drop 1).take (Tryz.prog.cellsOf 3)) = some y1 := t1
    rw [cellsInt] at t1
    replace t2 : DataW.trod enc Tryz.prog w base spare held n 43 (([c0, c1, c2, c3, c4, c5, c6, c7, c8, c9, c10].drop 2).take (Tryz.prog.cellsOf 43)) = some y2 := t2
    rw [cellsU64] at t2
    replace t3 : DataW.trod enc Tryz.prog w base spare held n 45 (([c0, c1, c2, c3, c4, c5, c6, c7, c8, c9, c10].drop 3).take (Tryz.prog.cellsOf 45)) = some y3 := t3
    rw [cellsHard] at t3
    replace t4 : DataW.trod enc Tryz.prog w base spare held n 49 (([c0, c1, c2, c3, c4, c5, c6, c7, c8, c9, c10].drop 6).take (Tryz.prog.cellsOf 49)) = some y4 := t4
    rw [cellsLog] at t4
    replace t5 : DataW.trod enc Tryz.prog w base spare held n 9 (([c0, c1, c2, c3, c4, c5, c6, c7, c8, c9, c10].drop 10).take (Tryz.prog.cellsOf 9)) = some y5 := t5
    rw [cellsStr] at t5
    simp only [List.drop_succ_cons, List.drop_zero, List.take_succ_cons, List.take_zero] at t0 t1 t2 t3 t4 t5
    obtain ⟨z0, e0, _, f0⟩ := DataW.trod_int Tryz.underlying3 t0
    obtain rfl : c0 = .int .i64 z0 := by simpa using e0
    obtain ⟨z1, e1, _, f1⟩ := DataW.trod_int Tryz.underlying3 t1
    obtain rfl : c1 = .int .i64 z1 := by simpa using e1
    obtain ⟨w2, e2, _, f2⟩ := DataW.trod_int Tryz.underlying43 t2
    obtain rfl : c2 = .int .u64 w2 := by simpa using e2
    obtain ⟨z2, rfl, g2⟩ := wf64 f2
    obtain ⟨n3, hH⟩ := field_at Tryz.underlying45 (by kernel_rfl) t3
    obtain ⟨y30, t30⟩ := hH 0 _ c3 rfl rfl
    obtain ⟨w3, e3, _, f3⟩ := DataW.trod_int Tryz.underlying43 t30
    obtain rfl : c3 = .int .u64 w3 := by simpa using e3
    obtain ⟨z3, rfl, g3⟩ := wf64 f3
    obtain ⟨y31, t31⟩ := hH 1 _ c4 rfl rfl
    obtain ⟨z4, e4, _, f4⟩ := DataW.trod_int Tryz.underlying3 t31
    obtain rfl : c4 = .int .i64 z4 := by simpa using e4
    obtain ⟨y32, t32⟩ := hH 2 _ c5 rfl rfl
    obtain ⟨w5, e5, _, f5⟩ := DataW.trod_int Tryz.underlying43 t32
    obtain rfl : c5 = .int .u64 w5 := by simpa using e5
    obtain ⟨z5, rfl, g5⟩ := wf64 f5
    obtain ⟨n4, hL⟩ := field_at Tryz.underlying49 (by kernel_rfl) t4
    obtain ⟨y40, t40⟩ := hL 0 _ c6 rfl rfl
    obtain ⟨w6, e6, _, f6⟩ := DataW.trod_int Tryz.underlying43 t40
    obtain rfl : c6 = .int .u64 w6 := by simpa using e6
    obtain ⟨z6, rfl, g6⟩ := wf64 f6
    obtain ⟨y41, t41⟩ := hL 1 _ c7 rfl rfl
    obtain ⟨w7, e7, _, f7⟩ := DataW.trod_int Tryz.underlying43 t41
    obtain rfl : c7 = .int .u64 w7 := by simpa using e7
    obtain ⟨z7, rfl, g7⟩ := wf64 f7
    obtain ⟨y42, t42⟩ := hL 2 _ c8 rfl rfl
    obtain ⟨z8, h8, k8⟩ := open_confs t42
    obtain ⟨y43, t43⟩ := hL 3 _ c9 rfl rfl
    obtain ⟨z9, h9, k9, m9⟩ := open_ens t43
    obtain ⟨z10, e10, _, f10⟩ := DataW.trod_string Tryz.underlying9 t5
    obtain rfl : c10 = .string z10 := by simpa using e10
    refine ⟨⟨z0, z1, z2, ⟨z3, z4, z5⟩, ⟨z6, z7, z8, z9⟩, z10.data.toList⟩, c8, c9, ?_, h8, h9, g2, g3, g5, g6, g7, m9, k8, k9, by show (z10.data.toList).length ≤ maxLen; rw [len_of]; exact f10, wfI64 f1⟩
    unfold Ac.vals
    simp only [str_of]
set_option maxRecDepth 100000 in
theorem act_arg {r : Reach} {b0 : Nat} {v : Value} {d : DataW H} {p : List MemPlace} (hv : Value.okWide Tryz.prog w r b0 59 v) (h : DataW.Trod enc Tryz.prog w base spare held 59 v d p) :
    ∃ (a : Ac) (vc vl : Value), v = .agg (a.vals vc vl).toArray ∧ AcArg a vc vl w := by
  obtain ⟨cs, rfl, hsz⟩ := okWide_struct Tryz.underlying59 hv
  obtain ⟨fuel, hf⟩ := h
  obtain ⟨a, vc, vl, e, ha⟩ := act_cells (cs := cs.toList) (by rw [Array.length_toList, hsz, cellsAct]) hf
  exact ⟨a, vc, vl, by rw [← e], ha⟩
/-- the calls of a script, as they came in -/
def AcsArg (l : List Ac) (v : Value) (w : World) : Prop := ∃ (x : Option Addr) (cap : Nat), v = .slice x l.length cap ∧ l.length ≤ cap ∧ cap ≤ maxLen ∧ (0 < l.length → ∃ b off, x = some ⟨b, off, none⟩ ∧ ∀ j (hj : j < l.length), ∃ vc vl, AcArg l[j] vc vl w ∧ ∀ k u, (l[j].vals vc vl)[k]? = some u → w.cell? ⟨b, off + j * 11 + k, none⟩ = some u)
set_option maxRecDepth 100000 in
theorem acts_open {fuel : Nat} {v : Value} {x : DataW H × List MemPlace} (h : DataW.trod enc Tryz.prog w base spare held fuel 56 [v] = some x) : ∃ l : List Ac, AcsArg l v w := by
  rcases open_slice Tryz.underlying56 h with h0 | ⟨a, len, cap, m, n, D, Pl, hcs, hb, hl, hm, hmm, hx, hi⟩
  · have hv : v = .slice none 0 0 := by have := h0.1; simpa using this
    subst hv
    exact ⟨[], none, 0, rfl, Nat.le_refl _, Nat.zero_le _, fun hp => by simp at hp⟩
  · simp only [List.cons.injEq, and_true] at hcs
    subst hcs
    have key : ∀ i, i < len → ∃ r : Ac × Value × Value, AcArg r.1 r.2.1 r.2.2 w ∧ ∀ k u, (r.1.vals r.2.1 r.2.2)[k]? = some u → w.cell? (a.add (i * 11 + k)) = some u := by
      intro i hil
      have him : i < m := by rw [hmm]; split <;> omega
      obtain ⟨cs', hc, ht'⟩ := hi i him
      rw [cellsAct] at hc
      obtain ⟨_, hcl, hat⟩ := World.cells?_some hc
      obtain ⟨r, vc, vl, rfl, hr⟩ := act_cells hcl ht'
      refine ⟨(r, vc, vl), hr, fun k u hu => ?_⟩
      obtain ⟨hk, e⟩ := List.getElem?_eq_some_iff.1 hu
      have hk' : k < 11 := hk
      have hcell := hat k (by omega)
      rw [← Go.Deep.add_add, hcell, hu]
    obtain ⟨f, hf⟩ := choose_lt key
    have hnl : ((List.range len).map fun i => (f i).1).length = len := by simp
    refine ⟨(List.range len).map fun i => (f i).1, some a, cap, by rw [hnl], by rw [hnl]; exact hl, hm, fun hp => ?_⟩
    rw [hnl] at hp
    obtain ⟨b, off, rfl⟩ := addr_form ((hf 0 hp).2 0 _ rfl) (by omega)
    refine ⟨b, off, rfl, fun j hj => ?_⟩
    rw [hnl] at hj
    refine ⟨(f j).2.1, (f j).2.2, ?_, fun k u hu => ?_⟩
    · rw [List.getElem_map, List.getElem_range]
      exact (hf j hj).1
    · rw [List.getElem_map, List.getElem_range] at hu
      have h2 := (hf j hj).2 k u hu
      rw [add_plain] at h2
      rw [show off + j * 11 + k = off + (j * 11 + k) by omega]
      exact h2
set_option maxRecDepth 100000 in
theorem acts_arg {r : Reach} {b0 : Nat} {v : Value} {d : DataW H} {p : List MemPlace} (hv : Value.okWide Tryz.prog w r b0 56 v) (h : DataW.Trod enc Tryz.prog w base spare held 56 v d p) :
    ∃ (l : List Ac), AcsArg l v w := by
  obtain ⟨a, len, cap, rfl⟩ := okWide_slice Tryz.underlying56 hv
  obtain ⟨fuel, hf⟩ := h
  exact acts_open hf
end Go.Proofs.YtmehcogaopackaaGreat
/- The walk of the law's run. -/
namespace Go.Proofs.YtmehcogaopackaaGreat
open Go.RowKit
set_option linter.unusedVariables false
set_option linter.unusedSimpArgs false
/-- a call whose parts are as many as a script that is not great has -/
def AcFit (a : Ac) : Prop := a.fr < top64 ∧ a.hard.term < top64 ∧ a.hard.life < top64 ∧ a.log.base < top64 ∧ a.log.bterm < top64 ∧ (∀ e ∈ a.log.l, e.term < top64 ∧ e.data.length ≤ 1048576) ∧ a.log.conf.length ≤ 1000 ∧ a.log.l.length ≤ 1000 ∧ a.image.length ≤ 1048576
/-- the calls of a script, in blocks beside G -/
def AcsIn (G : List Nat) (l : List Ac) (v : Value) (w : World) : Prop := ∃ (x : Option Addr) (cap : Nat), v = .slice x l.length cap ∧ l.length ≤ cap ∧ (∀ a ∈ l, AcFit a) ∧ (0 < l.length → ∃ b off, x = some ⟨b, off, none⟩ ∧ b ∉ G ∧ ∀ j (hj : j < l.length), ∃ vc vl, Cells G w vc l[j].log.conf.length (intVals l[j].log.conf) ∧ Cells G w vl l[j].log.l.length (enVals l[j].log.l) ∧ ∀ k u, (l[j].vals vc vl)[k]? = some u → w.cell? ⟨b, off + j * 11 + k, none⟩ = some u)
theorem Cells.after {G G' : List Nat} {W W' : World} {v : Value} {n : Nat} {xs : List Value} (h : Cells G W v n xs) (t : Turn G W W') (hG : ∀ b ∈ G', b ∈ G ∨ W.heap.size ≤ b) : Cells G' W' v n xs := by
  obtain ⟨a, cap, hv, hc, hx⟩ := h
  refine ⟨a, cap, hv, hc, fun hp => ?_⟩
  obtain ⟨b, off, ha, hb, hcell⟩ := hx hp
  have hlt : b < W.heap.size := World.block_lt_of_cell? _ _ (hcell 0 hp)
  refine ⟨b, off, ha, fun hm => ?_, fun j hj => ?_⟩
  · rcases hG b hm with h | h
    · exact hb h
    · omega
  · exact (World.cell?_of_block (t.block hlt hb)).trans (hcell j hj)
theorem AcsIn.after {G G' : List Nat} {W W' : World} {l : List Ac} {v : Value} (h : AcsIn G l v W) (t : Turn G W W') (hG : ∀ b ∈ G', b ∈ G ∨ W.heap.size ≤ b) : AcsIn G' l v W' := by
  obtain ⟨x, cap, hv, hc, hf, hx⟩ := h
  refine ⟨x, cap, hv, hc, hf, fun hp => ?_⟩
  obtain ⟨b, off, hxe, hb, hj⟩ := hx hp
  obtain ⟨vc0, vl0, _, _, hc0⟩ := hj 0 hp
  have hlt : b < W.heap.size := World.block_lt_of_cell? _ _ (hc0 0 _ rfl)
  refine ⟨b, off, hxe, fun hm => ?_, fun j hj' => ?_⟩
  · rcases hG b hm with h | h
    · exact hb h
    · omega
  · obtain ⟨vc, vl, h1, h2, h3⟩ := hj j hj'
    exact ⟨vc, vl, h1.after t hG, h2.after t hG, fun k u hu => (World.cell?_of_block (t.block hlt hb)).trans (h3 k u hu)⟩
/-- cells from a place on -/
def Sc (W : World) (b o : Nat) (xs : List Value) : Prop := ∀ k u, xs[k]? = some u → W.cell? ⟨b, o + k, none⟩ = some u
theorem Sc.turn {W W' : World} {b o : Nat} {xs : List Value} (h : Sc W b o xs) {F : List Nat} (t : Turn F W W') (hb : b ∉ F) : Sc W' b o xs := fun k u hu => by
  have h1 := h k u hu
  exact (World.cell?_of_block (t.block (World.block_lt_of_cell? _ _ h1) hb)).trans h1
/-- how run's calls leave the journal -/
def Ran (W : World) (j p : Nat) (G : List Nat) (n m : Nat) (W' : World) : Prop := ∃ G' d' S', JnAt W' j p G' d' S' ∧ (∀ b ∈ G', b ∈ G ∨ W.heap.size ≤ b) ∧ Turn G W W' ∧ d'.Ok n ∧ S'.log.l.length ≤ m
theorem Ran.step {W W1 W2 : World} {j p : Nat} {G G1 : List Nat} {n m : Nat} {d2 : Ds} {S2 : Js} (k2 : ∀ b ∈ G1, b ∈ G ∨ W.heap.size ≤ b) (k3 : Turn G W W1) (h : JnAfter W1 j p G1 d2 S2 W2) (ho : d2.Ok n) (hm : S2.log.l.length ≤ m) : Ran W j p G n m W2 := by
  obtain ⟨G2, a1, a2, a3⟩ := h
  refine ⟨G2, d2, S2, a1, fun b hb => ?_, k3.trans a3 k2, ho, hm⟩
  rcases a2 b hb with h | h
  · exact k2 b h
  · exact .inr (Nat.le_trans k3.size h)
theorem jSave_ok {d : Ds} {S : Js} {n : Nat} (h : d.Ok n) (x : Hd) : (jSave d S x).1.Ok (n + 1) ∧ (jSave d S x).2.1.log.l.length = S.log.l.length := by
  have h0 : d.Ok (n + 1) := ⟨h.1, by have := h.2; omega⟩
  have h1 := (Ds.Ok.sync' (h.add (hardRec ⟨x.term, x.vote, S.hard.life⟩))).1
  unfold jSave
  split
  · exact ⟨h0, rfl⟩
  · split
    · exact ⟨h0, rfl⟩
    · split
      · exact ⟨h1, rfl⟩
      · exact ⟨h1, rfl⟩
theorem jAppend_ok {d : Ds} {S : Js} {n : Nat} (h : d.Ok n) (fr : Nat) (l : List En) : (jAppend d S fr l).1.Ok (n + 1) ∧ (jAppend d S fr l).2.1.log.l.length ≤ S.log.l.length + l.length := by
  have h0 : d.Ok (n + 1) := ⟨h.1, by have := h.2; omega⟩
  have h1 := (Ds.Ok.sync' (h.add (entRecs fr l).flatten)).1
  unfold jAppend
  split
  · exact ⟨h0, by simp only; omega⟩
  · split
    · exact ⟨h0, by simp only; omega⟩
    · split
      · exact ⟨h1, by simp only; omega⟩
      · exact ⟨h1, by simp only [List.length_append, List.length_take]; omega⟩
theorem jRebase_ok {d : Ds} {S : Js} {n : Nat} (h : d.Ok n) (g : Lg) (im : Bytes) : (jRebase d S g im).1.Ok (n + 1) ∧ ((jRebase d S g im).2.1.log.l.length ≤ S.log.l.length + g.l.length) := by
  have h0 : d.Ok (n + 1) := ⟨h.1, by have := h.2; omega⟩
  have h1 := (Ds.Ok.sync' (h.puts (fileB ⟨S.hard, g, im⟩))).1
  unfold jRebase
  split
  · exact ⟨h0, by simp only; omega⟩
  · split
    · exact ⟨h1, by simp only; omega⟩
    · exact ⟨h1, by simp only; omega⟩
end Go.Proofs.YtmehcogaopackaaGreat
