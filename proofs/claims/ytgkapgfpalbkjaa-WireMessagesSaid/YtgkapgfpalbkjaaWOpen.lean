/-
  Arguments opened: slices of texts, of ranges, of entries, of ints; a request, a message.
-/
import Derived.Test.YtgkapgfpalbkjaaWireChainM
import Derived.SliceStrings
import Derived.ChangeSlices
import Derived.Deep.Slices
import Derived.Deep.Fields
import Derived.ChangeSame
import Derived.WalkKit
import Derived.ProofKit
import Derived.OpenShut
import Derived.ShutString
import Derived.ChangeOld
namespace Go.Proofs.Ytgkapgfpalbkjaa
open Go.RowKit Go.ChangeShapes Go.WideShapes Go.Deep
set_option linter.unusedVariables false
variable {H : Type} {enc : TypeId × Value → H} {w : World} {base : Nat} {spare : Nat → Bool} {held : Bool}
theorem wf64 {z : Int} (h : (Lit.int .u64 z).wf = true) : ∃ n : Nat, z = n ∧ n < top64 := by
  have h1 : 0 ≤ z ∧ z ≤ 18446744073709551615 := by simpa [Lit.wf, IntKind.min, IntKind.max, IntKind.signed, IntKind.bits] using h
  exact ⟨z.toNat, by omega, by unfold top64; omega⟩
theorem addr_form {w : World} {x : Addr} {i : Nat} {v : Value} (h : w.cell? (x.add i) = some v) (hi : i = 0) : ∃ b off, x = ⟨b, off, none⟩ := by
  subst hi
  obtain ⟨b, off, spot⟩ := x
  have hs : spot = none := by simpa [Addr.add] using World.cell?_spot h
  subst hs
  exact ⟨b, off, rfl⟩
theorem open_strs {fuel : Nat} {v : Value} {x : DataW H × List MemPlace} (h : DataW.trod enc Try.prog w base spare held fuel 24 [v] = some x) : ∃ l : List Bytes, Cells [] w v l.length (strVals l) ∧ l.length ≤ maxLen ∧ (∀ f ∈ l, f.length ≤ maxLen) := by
  rcases open_strings Try.underlying24 Try.underlying9 (by kernel_rfl) h with ⟨hcs, _⟩ | ⟨a, len, cap, ss, hcs, _, hl, hm, hz, hx, hcell, hws⟩
  · simp only [List.cons.injEq, and_true] at hcs
    subst hcs
    exact ⟨[], Cells.nil _ _, Nat.zero_le _, fun f hf => by simp at hf⟩
  · simp only [List.cons.injEq, and_true] at hcs
    subst hcs
    have hzl : len ≤ ss.length := by rw [hz]; split <;> omega
    have hnl : ((ss.take len).map fun s : ByteArray => s.data.toList).length = len := by rw [List.length_map, List.length_take]; omega
    refine ⟨(ss.take len).map fun s : ByteArray => s.data.toList, ?_, by rw [hnl]; omega, fun f hf => ?_⟩
    · refine ⟨some a, cap, by rw [hnl], by rw [hnl]; exact hl, fun hp => ?_⟩
      rw [strVals_len, hnl] at hp
      obtain ⟨b, off, rfl⟩ := addr_form (hcell 0 (by omega)) rfl
      refine ⟨b, off, rfl, by simp, fun j hj => ?_⟩
      rw [strVals_len, hnl] at hj
      have := hcell j (by omega)
      rw [add_plain] at this
      rw [this]
      simp [strVals, str_of, List.getD_eq_getElem?_getD, List.getElem?_eq_getElem (show j < ss.length by omega)]
    · obtain ⟨s, hs, rfl⟩ := List.mem_map.1 hf
      rw [len_of]
      exact hws s (List.mem_of_mem_take hs)
theorem open_confs {fuel : Nat} {v : Value} {x : DataW H × List MemPlace} (h : DataW.trod enc Try.prog w base spare held fuel 30 [v] = some x) : ∃ l : List Int, Cells [] w v l.length (intVals l) ∧ l.length ≤ maxLen := by
  rcases open_ints Try.underlying30 Try.underlying3 (by kernel_rfl) h with ⟨hcs, _⟩ | ⟨a, len, cap, zs, hcs, _, hl, hm, hz, hx, hcell, hwz⟩
  · simp only [List.cons.injEq, and_true] at hcs
    subst hcs
    exact ⟨[], Cells.nil _ _, Nat.zero_le _⟩
  · simp only [List.cons.injEq, and_true] at hcs
    subst hcs
    have hzl : len ≤ zs.length := by rw [hz]; split <;> omega
    have hnl : (zs.take len).length = len := by rw [List.length_take]; omega
    refine ⟨zs.take len, ?_, by rw [hnl]; omega⟩
    refine ⟨some a, cap, by rw [hnl], by rw [hnl]; exact hl, fun hp => ?_⟩
    rw [intVals_len, hnl] at hp
    obtain ⟨b, off, rfl⟩ := addr_form (hcell 0 (by omega)) rfl
    refine ⟨b, off, rfl, by simp, fun j hj => ?_⟩
    rw [intVals_len, hnl] at hj
    have := hcell j (by omega)
    rw [add_plain] at this
    rw [this]
    simp [intVals, List.getD_eq_getElem?_getD, List.getElem?_eq_getElem (show j < zs.length by omega)]
/-- a slice of structs of one-cell fields, opened -/
theorem open_structs {t e : TypeId} {fs : Array Field} {fuel : Nat} {v : Value} {x : DataW H × List MemPlace} (ht : Try.prog.underlying t = some (.slice e)) (he : Try.prog.underlying e = some (.struct fs))
    (hone : oneCellFields Try.prog fs = true) (hC : Try.prog.cellsOf e = fs.size) (h : DataW.trod enc Try.prog w base spare held fuel t [v] = some x) :
    v = .slice none 0 0 ∨
    ∃ (a : Addr) (len cap : Nat), v = .slice (some a) len cap ∧ len ≤ cap ∧ cap ≤ maxLen ∧
      ∀ i, i < len → ∀ (j : Nat) (f : Field), fs[j]? = some f → ∃ (u : Value) (n : Nat) (y : DataW H × List MemPlace), w.cell? (a.add (i * fs.size + j)) = some u ∧ DataW.trod enc Try.prog w base spare held n f.type [u] = some y := by
  rcases open_slice ht h with h0 | ⟨a, len, cap, m, n, D, Pl, hcs, hb, hl, hm, hmm, hx, hi⟩
  · left
    have := h0.1
    simpa using this
  · right
    simp only [List.cons.injEq, and_true] at hcs
    refine ⟨a, len, cap, hcs, hl, hm, fun i hil j f hj => ?_⟩
    have him : i < m := by rw [hmm]; split <;> omega
    obtain ⟨cs', hc, ht'⟩ := hi i him
    rw [hC] at hc
    obtain ⟨ys, n', hn', hy, hlen, hyl, hf⟩ := DataW.trod_struct he ht'
    obtain ⟨_, hcl, hat⟩ := World.cells?_some hc
    obtain ⟨ho, hk⟩ := hone_of hone j f hj
    have hjl : j < fs.size := (Array.getElem?_eq_some_iff.1 hj).1
    have hcell := hat j hjl
    have hv : cs'[j]? = some (cs'[j]'(by omega)) := List.getElem?_eq_getElem (by omega)
    have h1 := hf j f hj
    rw [ho, hk] at h1
    have hone' : (cs'.drop j).take 1 = [cs'[j]'(by omega)] := by
      rw [List.drop_eq_getElem_cons (by omega)]
      rfl
    rw [hone'] at h1
    have hys : ys[j]? = some (ys[j]'(by omega)) := List.getElem?_eq_getElem (by omega)
    refine ⟨_, n', _, ?_, h1.trans hys⟩
    rw [← Go.Deep.add_add, hcell, hv]
theorem open_rgs {fuel : Nat} {v : Value} {x : DataW H × List MemPlace} (h : DataW.trod enc Try.prog w base spare held fuel 23 [v] = some x) : ∃ l : List (Nat × Nat), Cells [] w v l.length (rgVals l) ∧ l.length ≤ maxLen ∧ (∀ r ∈ l, r.1 < top64 ∧ r.2 < top64) := by
  rcases open_structs Try.underlying23 Try.underlying65 (by kernel_rfl) (by kernel_rfl) h with rfl | ⟨a, len, cap, rfl, hl, hm, hi⟩
  · exact ⟨[], Cells.nil _ _, Nat.zero_le _, fun f hf => by simp at hf⟩
  · have key : ∀ i, i < len → ∃ r : Nat × Nat, (w.cell? (a.add (i * 2)) = some (.int .u64 r.1) ∧ w.cell? (a.add (i * 2 + 1)) = some (.int .u64 r.2)) ∧ r.1 < top64 ∧ r.2 < top64 := by
      intro i hil
      obtain ⟨u0, n0, y0, c0, t0⟩ := hi i hil 0 _ rfl
      obtain ⟨u1, n1, y1, c1, t1⟩ := hi i hil 1 _ rfl
      obtain ⟨z0, e0, _, f0⟩ := DataW.trod_int Try.underlying22 t0
      obtain ⟨z1, e1, _, f1⟩ := DataW.trod_int Try.underlying22 t1
      simp only [List.cons.injEq, and_true] at e0 e1
      obtain ⟨m0, rfl, g0⟩ := wf64 f0
      obtain ⟨m1, rfl, g1⟩ := wf64 f1
      subst e0 e1
      exact ⟨(m0, m1), ⟨c0, c1⟩, g0, g1⟩
    obtain ⟨f, hf⟩ := choose_lt key
    have hnl : ((List.range len).map f).length = len := by simp
    refine ⟨(List.range len).map f, ?_, by rw [hnl]; omega, fun r hr => ?_⟩
    · refine ⟨some a, cap, by rw [hnl], by rw [hnl]; exact hl, fun hp => ?_⟩
      rw [rgVals_len, hnl] at hp
      obtain ⟨b, off, rfl⟩ := addr_form (hf 0 (by omega)).1.1 (by omega)
      refine ⟨b, off, rfl, by simp, fun j hj => ?_⟩
      rw [rgVals_len, hnl] at hj
      have hij : j / 2 < ((List.range len).map f).length := by rw [hnl]; omega
      have h1 := rgVals_at ((List.range len).map f) (j / 2) hij
      have h2 := (hf (j / 2) (by omega)).1
      rw [add_plain, add_plain] at h2
      rw [List.getElem_map, List.getElem_range] at h1
      rcases (by omega : j % 2 = 0 ∨ j % 2 = 1) with hj0 | hj0
      · have e : j / 2 * 2 = j := by omega
        rw [e] at h1 h2
        rw [h2.1, ← h1.1]
        rw [List.getElem?_eq_getElem]
      · have e : j / 2 * 2 + 1 = j := by omega
        rw [e] at h1 h2
        rw [h2.2, ← h1.2]
        rw [List.getElem?_eq_getElem]
    · obtain ⟨i, hi2, rfl⟩ := List.mem_map.1 hr
      exact (hf i (by simpa using hi2)).2
theorem open_ens {fuel : Nat} {v : Value} {x : DataW H × List MemPlace} (h : DataW.trod enc Try.prog w base spare held fuel 29 [v] = some x) : ∃ l : List En, Cells [] w v l.length (enVals l) ∧ l.length ≤ maxLen ∧ (∀ e ∈ l, e.term < top64 ∧ e.data.length ≤ maxLen) := by
  rcases open_structs Try.underlying29 Try.underlying58 (by kernel_rfl) (by kernel_rfl) h with rfl | ⟨a, len, cap, rfl, hl, hm, hi⟩
  · exact ⟨[], Cells.nil _ _, Nat.zero_le _, fun f hf => by simp at hf⟩
  · have key : ∀ i, i < len → ∃ r : Nat × Int × Bytes, (w.cell? (a.add (i * 3)) = some (.int .u64 r.1) ∧ w.cell? (a.add (i * 3 + 1)) = some (.int .i64 r.2.1) ∧ w.cell? (a.add (i * 3 + 2)) = some (.string (str r.2.2))) ∧ r.1 < top64 ∧ r.2.2.length ≤ maxLen := by
      intro i hil
      obtain ⟨u0, n0, y0, c0, t0⟩ := hi i hil 0 _ rfl
      obtain ⟨u1, n1, y1, c1, t1⟩ := hi i hil 1 _ rfl
      obtain ⟨u2, n2, y2, c2, t2⟩ := hi i hil 2 _ rfl
      obtain ⟨z0, e0, _, f0⟩ := DataW.trod_int Try.underlying22 t0
      obtain ⟨z1, e1, _, f1⟩ := DataW.trod_int Try.underlying3 t1
      obtain ⟨z2, e2, _, f2⟩ := DataW.trod_string Try.underlying9 t2
      simp only [List.cons.injEq, and_true] at e0 e1 e2
      obtain ⟨m0, rfl, g0⟩ := wf64 f0
      subst e0 e1 e2
      exact ⟨(m0, z1, z2.data.toList), ⟨c0, c1, by rw [str_of]; exact c2⟩, g0, by rw [len_of]; exact f2⟩
    obtain ⟨f, hf⟩ := choose_lt key
    have hnl : ((List.range len).map fun i => (⟨(f i).1, (f i).2.1, (f i).2.2⟩ : En)).length = len := by simp
    refine ⟨(List.range len).map fun i => (⟨(f i).1, (f i).2.1, (f i).2.2⟩ : En), ?_, by rw [hnl]; omega, fun r hr => ?_⟩
    · refine ⟨some a, cap, by rw [hnl], by rw [hnl]; exact hl, fun hp => ?_⟩
      rw [enVals_len, hnl] at hp
      obtain ⟨b, off, rfl⟩ := addr_form (hf 0 (by omega)).1.1 (by omega)
      refine ⟨b, off, rfl, by simp, fun j hj => ?_⟩
      rw [enVals_len, hnl] at hj
      have hij : j / 3 < ((List.range len).map fun i => (⟨(f i).1, (f i).2.1, (f i).2.2⟩ : En)).length := by rw [hnl]; omega
      have h1 := enVals_at ((List.range len).map fun i => (⟨(f i).1, (f i).2.1, (f i).2.2⟩ : En)) (j / 3) hij
      have h2 := (hf (j / 3) (by omega)).1
      rw [add_plain, add_plain, add_plain] at h2
      rw [List.getElem_map, List.getElem_range] at h1
      simp only at h1
      rcases (by omega : j % 3 = 0 ∨ j % 3 = 1 ∨ j % 3 = 2) with hj0 | hj0 | hj0
      · have e : j / 3 * 3 = j := by omega
        rw [e] at h1 h2
        rw [h2.1, ← h1.1]
        rw [List.getElem?_eq_getElem]
      · have e : j / 3 * 3 + 1 = j := by omega
        rw [e] at h1 h2
        rw [h2.2.1, ← h1.2.1]
        rw [List.getElem?_eq_getElem]
      · have e : j / 3 * 3 + 2 = j := by omega
        rw [e] at h1 h2
        rw [h2.2.2, ← h1.2.2]
        rw [List.getElem?_eq_getElem]
    · obtain ⟨i, hi2, rfl⟩ := List.mem_map.1 hr
      exact (hf i (by simpa using hi2)).2
/-- a struct of one-cell fields: each field's reading -/
theorem field_at {t : TypeId} {fs : Array Field} {fuel : Nat} {cs : List Value} {x : DataW H × List MemPlace} (hs : Try.prog.underlying t = some (.struct fs)) (hone : oneCellFields Try.prog fs = true) (h : DataW.trod enc Try.prog w base spare held fuel t cs = some x) :
    ∃ n, ∀ (j : Nat) (f : Field) (c : Value), fs[j]? = some f → cs[j]? = some c → ∃ y, DataW.trod enc Try.prog w base spare held n f.type [c] = some y := by
  obtain ⟨ys, n', hn', hy, hlen, hyl, hf⟩ := DataW.trod_struct hs h
  refine ⟨n', fun j f c hj hc => ?_⟩
  obtain ⟨ho, hk⟩ := hone_of hone j f hj
  have hjl : j < fs.size := (Array.getElem?_eq_some_iff.1 hj).1
  obtain ⟨hjc, e⟩ := List.getElem?_eq_some_iff.1 hc
  have h1 := hf j f hj
  rw [ho, hk] at h1
  have hone' : (cs.drop j).take 1 = [c] := by
    rw [List.drop_eq_getElem_cons hjc, e]
    rfl
  rw [hone'] at h1
  have hys : ys[j]? = some (ys[j]'(by omega)) := List.getElem?_eq_getElem (by omega)
  exact ⟨_, h1.trans hys⟩
set_option maxRecDepth 100000 in
theorem open_rq {r : Reach} {b0 : Nat} {v : Value} {d : DataW H} {p : List MemPlace} (hv : Value.okWide Try.prog w r b0 26 v) (h : DataW.Trod enc Try.prog w base spare held 26 v d p) :
    ∃ (x : Rq) (vu vf : Value), v = .agg (x.cells vu vf) ∧ Cells [] w vu x.uids.length (rgVals x.uids) ∧ Cells [] w vf x.flags.length (strVals x.flags) ∧ x.fit ∧ x.uids.length ≤ maxLen ∧ x.flags.length ≤ maxLen ∧ (∀ f ∈ x.flags, f.length ≤ maxLen) ∧ x.box.length ≤ maxLen ∧ x.dest.length ≤ maxLen ∧ x.hash.length ≤ maxLen := by
  obtain ⟨cs, rfl, hsz⟩ := okWide_struct Try.underlying26 hv
  obtain ⟨l⟩ := cs
  have hC : Try.prog.cellsOf 26 = 17 := by kernel_rfl
  match l, hsz.trans hC with
  | [c0, c1, c2, c3, c4, c5, c6, c7, c8, c9, c10, c11, c12, c13, c14, c15, c16], _ =>
    obtain ⟨fuel, hf⟩ := h
    obtain ⟨n, hF⟩ := field_at Try.underlying26 (by kernel_rfl) hf
    obtain ⟨y0, t0⟩ := hF 0 _ c0 rfl rfl
    obtain ⟨z0, e0, _, f0⟩ := DataW.trod_int Try.underlying3 t0
    obtain rfl : c0 = .int .i64 z0 := by simpa using e0
    obtain ⟨y1, t1⟩ := hF 1 _ c1 rfl rfl
    obtain ⟨w1, e1, _, f1⟩ := DataW.trod_int Try.underlying22 t1
    obtain rfl : c1 = .int .u64 w1 := by simpa using e1
    obtain ⟨z1, rfl, g1⟩ := wf64 f1
    obtain ⟨y2, t2⟩ := hF 2 _ c2 rfl rfl
    obtain ⟨w2, e2, _, f2⟩ := DataW.trod_int Try.underlying22 t2
    obtain rfl : c2 = .int .u64 w2 := by simpa using e2
    obtain ⟨z2, rfl, g2⟩ := wf64 f2
    obtain ⟨y3, t3⟩ := hF 3 _ c3 rfl rfl
    obtain ⟨z3, e3, _, f3⟩ := DataW.trod_int Try.underlying3 t3
    obtain rfl : c3 = .int .i64 z3 := by simpa using e3
    obtain ⟨y4, t4⟩ := hF 4 _ c4 rfl rfl
    obtain ⟨w4, e4, _, f4⟩ := DataW.trod_int Try.underlying22 t4
    obtain rfl : c4 = .int .u64 w4 := by simpa using e4
    obtain ⟨z4, rfl, g4⟩ := wf64 f4
    obtain ⟨y5, t5⟩ := hF 5 _ c5 rfl rfl
    obtain ⟨w5, e5, _, f5⟩ := DataW.trod_int Try.underlying22 t5
    obtain rfl : c5 = .int .u64 w5 := by simpa using e5
    obtain ⟨z5, rfl, g5⟩ := wf64 f5
    obtain ⟨y6, t6⟩ := hF 6 _ c6 rfl rfl
    obtain ⟨z6, e6, _, f6⟩ := DataW.trod_string Try.underlying9 t6
    obtain rfl : c6 = .string z6 := by simpa using e6
    obtain ⟨y7, t7⟩ := hF 7 _ c7 rfl rfl
    obtain ⟨z7, e7, _, f7⟩ := DataW.trod_string Try.underlying9 t7
    obtain rfl : c7 = .string z7 := by simpa using e7
    obtain ⟨y8, t8⟩ := hF 8 _ c8 rfl rfl
    obtain ⟨w8, e8, _, f8⟩ := DataW.trod_int Try.underlying22 t8
    obtain rfl : c8 = .int .u64 w8 := by simpa using e8
    obtain ⟨z8, rfl, g8⟩ := wf64 f8
    obtain ⟨y9, t9⟩ := hF 9 _ c9 rfl rfl
    obtain ⟨z9, h9, k9, m9⟩ := open_rgs t9
    obtain ⟨y10, t10⟩ := hF 10 _ c10 rfl rfl
    obtain ⟨z10, h10, k10, m10⟩ := open_strs t10
    obtain ⟨y11, t11⟩ := hF 11 _ c11 rfl rfl
    obtain ⟨z11, e11, _, f11⟩ := DataW.trod_int Try.underlying3 t11
    obtain rfl : c11 = .int .i64 z11 := by simpa using e11
    obtain ⟨y12, t12⟩ := hF 12 _ c12 rfl rfl
    obtain ⟨z12, e12, _⟩ := DataW.trod_bool Try.underlying4 t12
    obtain rfl : c12 = .bool z12 := by simpa using e12
    obtain ⟨y13, t13⟩ := hF 13 _ c13 rfl rfl
    obtain ⟨w13, e13, _, f13⟩ := DataW.trod_int Try.underlying22 t13
    obtain rfl : c13 = .int .u64 w13 := by simpa using e13
    obtain ⟨z13, rfl, g13⟩ := wf64 f13
    obtain ⟨y14, t14⟩ := hF 14 _ c14 rfl rfl
    obtain ⟨z14, e14, _, f14⟩ := DataW.trod_string Try.underlying9 t14
    obtain rfl : c14 = .string z14 := by simpa using e14
    obtain ⟨y15, t15⟩ := hF 15 _ c15 rfl rfl
    obtain ⟨w15, e15, _, f15⟩ := DataW.trod_int Try.underlying22 t15
    obtain rfl : c15 = .int .u64 w15 := by simpa using e15
    obtain ⟨z15, rfl, g15⟩ := wf64 f15
    obtain ⟨y16, t16⟩ := hF 16 _ c16 rfl rfl
    obtain ⟨w16, e16, _, f16⟩ := DataW.trod_int Try.underlying22 t16
    obtain rfl : c16 = .int .u64 w16 := by simpa using e16
    obtain ⟨z16, rfl, g16⟩ := wf64 f16
    refine ⟨⟨z0, z1, z2, z3, z4, z5, z6.data.toList, z7.data.toList, z8, z9, z10, z11, z12, z13, z14.data.toList, z15, z16⟩, c9, c10, ?_, h9, h10, ⟨g1, g2, g4, g5, g8, g13, g15, g16, m9⟩, k9, k10, m10, by show (z6.data.toList).length ≤ maxLen; rw [len_of]; exact f6, by show (z7.data.toList).length ≤ maxLen; rw [len_of]; exact f7, by show (z14.data.toList).length ≤ maxLen; rw [len_of]; exact f14⟩
    unfold Rq.cells
    simp only [str_of]
set_option maxRecDepth 100000 in
theorem open_ms {r : Reach} {b0 : Nat} {v : Value} {d : DataW H} {p : List MemPlace} (hv : Value.okWide Try.prog w r b0 32 v) (h : DataW.Trod enc Try.prog w base spare held 32 v d p) :
    ∃ (x : Ms) (vu vf : Value), v = .agg (x.cells vu vf) ∧ Cells [] w vu x.entries.length (enVals x.entries) ∧ Cells [] w vf x.conf.length (intVals x.conf) ∧ x.fit ∧ x.entries.length ≤ maxLen ∧ x.conf.length ≤ maxLen ∧ (∀ e ∈ x.entries, e.data.length ≤ maxLen) ∧ x.data.length ≤ maxLen := by
  obtain ⟨cs, rfl, hsz⟩ := okWide_struct Try.underlying32 hv
  obtain ⟨l⟩ := cs
  have hC : Try.prog.cellsOf 32 = 13 := by kernel_rfl
  match l, hsz.trans hC with
  | [c0, c1, c2, c3, c4, c5, c6, c7, c8, c9, c10, c11, c12], _ =>
    obtain ⟨fuel, hf⟩ := h
    obtain ⟨n, hF⟩ := field_at Try.underlying32 (by kernel_rfl) hf
    obtain ⟨y0, t0⟩ := hF 0 _ c0 rfl rfl
    obtain ⟨z0, e0, _, f0⟩ := DataW.trod_int Try.underlying3 t0
    obtain rfl : c0 = .int .i64 z0 := by simpa using e0
    obtain ⟨y1, t1⟩ := hF 1 _ c1 rfl rfl
    obtain ⟨z1, e1, _, f1⟩ := DataW.trod_int Try.underlying3 t1
    obtain rfl : c1 = .int .i64 z1 := by simpa using e1
    obtain ⟨y2, t2⟩ := hF 2 _ c2 rfl rfl
    obtain ⟨z2, e2, _, f2⟩ := DataW.trod_int Try.underlying3 t2
    obtain rfl : c2 = .int .i64 z2 := by simpa using e2
    obtain ⟨y3, t3⟩ := hF 3 _ c3 rfl rfl
    obtain ⟨w3, e3, _, f3⟩ := DataW.trod_int Try.underlying22 t3
    obtain rfl : c3 = .int .u64 w3 := by simpa using e3
    obtain ⟨z3, rfl, g3⟩ := wf64 f3
    obtain ⟨y4, t4⟩ := hF 4 _ c4 rfl rfl
    obtain ⟨w4, e4, _, f4⟩ := DataW.trod_int Try.underlying22 t4
    obtain rfl : c4 = .int .u64 w4 := by simpa using e4
    obtain ⟨z4, rfl, g4⟩ := wf64 f4
    obtain ⟨y5, t5⟩ := hF 5 _ c5 rfl rfl
    obtain ⟨w5, e5, _, f5⟩ := DataW.trod_int Try.underlying22 t5
    obtain rfl : c5 = .int .u64 w5 := by simpa using e5
    obtain ⟨z5, rfl, g5⟩ := wf64 f5
    obtain ⟨y6, t6⟩ := hF 6 _ c6 rfl rfl
    obtain ⟨w6, e6, _, f6⟩ := DataW.trod_int Try.underlying22 t6
    obtain rfl : c6 = .int .u64 w6 := by simpa using e6
    obtain ⟨z6, rfl, g6⟩ := wf64 f6
    obtain ⟨y7, t7⟩ := hF 7 _ c7 rfl rfl
    obtain ⟨z7, e7, _⟩ := DataW.trod_bool Try.underlying4 t7
    obtain rfl : c7 = .bool z7 := by simpa using e7
    obtain ⟨y8, t8⟩ := hF 8 _ c8 rfl rfl
    obtain ⟨z8, h8, k8, m8⟩ := open_ens t8
    obtain ⟨y9, t9⟩ := hF 9 _ c9 rfl rfl
    obtain ⟨z9, h9, k9⟩ := open_confs t9
    obtain ⟨y10, t10⟩ := hF 10 _ c10 rfl rfl
    obtain ⟨z10, e10, _, f10⟩ := DataW.trod_int Try.underlying3 t10
    obtain rfl : c10 = .int .i64 z10 := by simpa using e10
    obtain ⟨y11, t11⟩ := hF 11 _ c11 rfl rfl
    obtain ⟨z11, e11, _, f11⟩ := DataW.trod_int Try.underlying3 t11
    obtain rfl : c11 = .int .i64 z11 := by simpa using e11
    obtain ⟨y12, t12⟩ := hF 12 _ c12 rfl rfl
    obtain ⟨z12, e12, _, f12⟩ := DataW.trod_string Try.underlying9 t12
    obtain rfl : c12 = .string z12 := by simpa using e12
    refine ⟨⟨z0, z1, z2, z3, z4, z5, z6, z7, z8, z9, z10, z11, z12.data.toList⟩, c8, c9, ?_, h8, h9, ⟨g3, g4, g5, g6, fun e he => (m8 e he).1⟩, k8, k9, fun e he => (m8 e he).2, by show (z12.data.toList).length ≤ maxLen; rw [len_of]; exact f12⟩
    unfold Ms.cells
    simp only [str_of]
/-- a request that came in -/
def RqArg (x : Rq) (vu vf : Value) (w : World) : Prop := Cells [] w vu x.uids.length (rgVals x.uids) ∧ Cells [] w vf x.flags.length (strVals x.flags) ∧ x.fit ∧ x.uids.length ≤ maxLen ∧ x.flags.length ≤ maxLen ∧ (∀ f ∈ x.flags, f.length ≤ maxLen) ∧ x.box.length ≤ maxLen ∧ x.dest.length ≤ maxLen ∧ x.hash.length ≤ maxLen
set_option maxRecDepth 100000 in
theorem rq_arg {r : Reach} {b0 : Nat} {v : Value} {d : DataW H} {p : List MemPlace} (hv : Value.okWide Try.prog w r b0 26 v) (h : DataW.Trod enc Try.prog w base spare held 26 v d p) :
    ∃ (x : Rq) (vu vf : Value), v = .agg (x.cells vu vf) ∧ RqArg x vu vf w := open_rq hv h
/-- a message that came in -/
def MsArg (x : Ms) (ve vc : Value) (w : World) : Prop := Cells [] w ve x.entries.length (enVals x.entries) ∧ Cells [] w vc x.conf.length (intVals x.conf) ∧ x.fit ∧ x.entries.length ≤ maxLen ∧ x.conf.length ≤ maxLen ∧ (∀ e ∈ x.entries, e.data.length ≤ maxLen) ∧ x.data.length ≤ maxLen
set_option maxRecDepth 100000 in
theorem ms_arg {r : Reach} {b0 : Nat} {v : Value} {d : DataW H} {p : List MemPlace} (hv : Value.okWide Try.prog w r b0 32 v) (h : DataW.Trod enc Try.prog w base spare held 32 v d p) :
    ∃ (x : Ms) (ve vc : Value), v = .agg (x.cells ve vc) ∧ MsArg x ve vc w := open_ms hv h
end Go.Proofs.Ytgkapgfpalbkjaa
