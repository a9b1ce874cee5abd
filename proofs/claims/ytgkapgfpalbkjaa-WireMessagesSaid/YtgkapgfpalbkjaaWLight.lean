/-
  The walk of light.
-/
import Derived.Test.YtgkapgfpalbkjaaWireChainM
import Derived.Deep.QuietTactic
import Derived.BigQuiet
namespace Go.Proofs.Ytgkapgfpalbkjaa
open Go.RowKit
set_option linter.unusedVariables false
set_option linter.unusedSimpArgs false
/-- a bool; where it is true, there are not too many of each -/
def SomeLight (x : Rq) (m : Ms) (w : World) (e : Ending) (w' : World) : Prop := ∃ b : Bool, e = .returned (.bool b) ∧ (b = true → x.uids.length ≤ 1000 ∧ x.flags.length ≤ 1000 ∧ m.entries.length ≤ 100 ∧ m.conf.length ≤ 1000) ∧ Below w.heap.size w w'
def fewN (n : Int) : Int := if n < 1048576 then n else 1048576
theorem few_any (n : Int) (w : World) : Calls Try.prog 20 #[.int .i64 n] w fun e w' => e = .returned (.int .i64 (fewN n)) ∧ w = w' := by
  by_cases h : n < 1048576
  · have HX := hid (show fewN n = n by unfold fewN; rw [if_pos h])
    go_enter Try.func20, Try.ntmps20
    go_wp2_with fail
    go_ret
    rw [HX.out]
    exact ⟨rfl, rfl⟩
  · by_cases h2 : n = 1048576
    · subst h2
      go_enter Try.func20, Try.ntmps20
      go_wp2_with fail
      go_ret
      exact ⟨rfl, rfl⟩
    have HX := hid (show fewN n = 1048576 by unfold fewN; rw [if_neg h])
    go_enter Try.func20, Try.ntmps20
    go_wp2_with fail
    go_ret
    rw [HX.out]
    exact ⟨rfl, rfl⟩
theorem few_same (n : Int) (w : World) : Calls Try.prog 20 #[.int .i64 n] w fun e w' => e = .returned (.int .i64 (fewN n)) ∧ w' = w := (few_any n w).mono fun _ _ ⟨a, b⟩ => ⟨a, b.symm⟩
set_option maxRecDepth 100000 in
set_option maxHeartbeats 2000000 in
theorem light_no0 (x : Rq) (m : Ms) (vu vf ve vc : Value) (w : World) (D1 D2 D3 D4 : List Nat) (hu : Cells D1 w vu x.uids.length (rgVals x.uids)) (hf : Cells D2 w vf x.flags.length (strVals x.flags)) (he : Cells D3 w ve m.entries.length (enVals m.entries)) (hc : Cells D4 w vc m.conf.length (intVals m.conf)) (hf2 : ∀ f ∈ x.flags, f.length ≤ maxLen) (he2 : ∀ e ∈ m.entries, e.data.length ≤ maxLen) (hb : x.box.length ≤ maxLen) (hd : x.dest.length ≤ maxLen) (hh : x.hash.length ≤ maxLen) (hdd : m.data.length ≤ maxLen)  (n0 : ¬ x.uids.length ≤ 1000) :
    Calls Try.prog 9 #[.agg (x.cells vu vf), .agg (m.cells ve vc)] w (SomeLight x m w) := by
  have HN := hid n0
  obtain ⟨au, cu, rfl⟩ := hu.form
  obtain ⟨af, cf, rfl⟩ := hf.form
  obtain ⟨ae, ce, rfl⟩ := he.form
  obtain ⟨ac, cc, rfl⟩ := hc.form
  have hk := blk_alloc (heap_alloc_new w (.cells #[.int .i64 x.op, .int .u64 x.session, .int .u64 x.number, .int .i64 x.node, .int .u64 x.life, .int .u64 x.tried, .string (str x.box), .string (str x.dest), .int .u64 x.validity, .slice au x.uids.length cu, .slice af x.flags.length cf, .int .i64 x.how, .bool x.has, .int .u64 x.since, .string (str x.hash), .int .u64 x.size, .int .u64 x.sweeps] 26)) (.cells #[.int .i64 m.kind, .int .i64 m.src, .int .i64 m.dest, .int .u64 m.term, .int .u64 m.index, .int .u64 m.logTerm, .int .u64 m.commit, .bool m.ok, .slice ae m.entries.length ce, .slice ac m.conf.length cc, .int .i64 m.offset, .int .i64 m.size, .string (str m.data)] 32)
  have hm := heap_alloc_new (w.alloc (.cells #[.int .i64 x.op, .int .u64 x.session, .int .u64 x.number, .int .i64 x.node, .int .u64 x.life, .int .u64 x.tried, .string (str x.box), .string (str x.dest), .int .u64 x.validity, .slice au x.uids.length cu, .slice af x.flags.length cf, .int .i64 x.how, .bool x.has, .int .u64 x.since, .string (str x.hash), .int .u64 x.size, .int .u64 x.sweeps] 26)) (.cells #[.int .i64 m.kind, .int .i64 m.src, .int .i64 m.dest, .int .u64 m.term, .int .u64 m.index, .int .u64 m.logTerm, .int .u64 m.commit, .bool m.ok, .slice ae m.entries.length ce, .slice ac m.conf.length cc, .int .i64 m.offset, .int .i64 m.size, .string (str m.data)] 32)
  rw [World.size_alloc] at hm
  have hB : Below w.heap.size w ((w.alloc (.cells #[.int .i64 x.op, .int .u64 x.session, .int .u64 x.number, .int .i64 x.node, .int .u64 x.life, .int .u64 x.tried, .string (str x.box), .string (str x.dest), .int .u64 x.validity, .slice au x.uids.length cu, .slice af x.flags.length cf, .int .i64 x.how, .bool x.has, .int .u64 x.since, .string (str x.hash), .int .u64 x.size, .int .u64 x.sweeps] 26)).alloc (.cells #[.int .i64 m.kind, .int .i64 m.src, .int .i64 m.dest, .int .u64 m.term, .int .u64 m.index, .int .u64 m.logTerm, .int .u64 m.commit, .bool m.ok, .slice ae m.entries.length ce, .slice ac m.conf.length cc, .int .i64 m.offset, .int .i64 m.size, .string (str m.data)] 32)) := ((Below.refl _ _).alloc (Nat.le_refl _) _).alloc (by simp) _
  have HB := hid hB
  have HF := hid (hf.kept (fun j hj _ => hB.block j hj))
  have HE := hid (he.kept (fun j hj _ => hB.block j hj))
  clear hf he hu hc hB
  unfold Rq.cells Ms.cells
  go_enter Try.func9, Try.ntmps9
  go_wp2_with fail
  go_ret
  exact ⟨false, rfl, (fun h => by cases h), HB.out⟩
set_option maxRecDepth 100000 in
set_option maxHeartbeats 2000000 in
theorem light_no1 (x : Rq) (m : Ms) (vu vf ve vc : Value) (w : World) (D1 D2 D3 D4 : List Nat) (hu : Cells D1 w vu x.uids.length (rgVals x.uids)) (hf : Cells D2 w vf x.flags.length (strVals x.flags)) (he : Cells D3 w ve m.entries.length (enVals m.entries)) (hc : Cells D4 w vc m.conf.length (intVals m.conf)) (hf2 : ∀ f ∈ x.flags, f.length ≤ maxLen) (he2 : ∀ e ∈ m.entries, e.data.length ≤ maxLen) (hb : x.box.length ≤ maxLen) (hd : x.dest.length ≤ maxLen) (hh : x.hash.length ≤ maxLen) (hdd : m.data.length ≤ maxLen) (p0 : x.uids.length ≤ 1000) (n1 : ¬ x.flags.length ≤ 1000) :
    Calls Try.prog 9 #[.agg (x.cells vu vf), .agg (m.cells ve vc)] w (SomeLight x m w) := by
  have HN := hid n1
  obtain ⟨au, cu, rfl⟩ := hu.form
  obtain ⟨af, cf, rfl⟩ := hf.form
  obtain ⟨ae, ce, rfl⟩ := he.form
  obtain ⟨ac, cc, rfl⟩ := hc.form
  have hk := blk_alloc (heap_alloc_new w (.cells #[.int .i64 x.op, .int .u64 x.session, .int .u64 x.number, .int .i64 x.node, .int .u64 x.life, .int .u64 x.tried, .string (str x.box), .string (str x.dest), .int .u64 x.validity, .slice au x.uids.length cu, .slice af x.flags.length cf, .int .i64 x.how, .bool x.has, .int .u64 x.since, .string (str x.hash), .int .u64 x.size, .int .u64 x.sweeps] 26)) (.cells #[.int .i64 m.kind, .int .i64 m.src, .int .i64 m.dest, .int .u64 m.term, .int .u64 m.index, .int .u64 m.logTerm, .int .u64 m.commit, .bool m.ok, .slice ae m.entries.length ce, .slice ac m.conf.length cc, .int .i64 m.offset, .int .i64 m.size, .string (str m.data)] 32)
  have hm := heap_alloc_new (w.alloc (.cells #[.int .i64 x.op, .int .u64 x.session, .int .u64 x.number, .int .i64 x.node, .int .u64 x.life, .int .u64 x.tried, .string (str x.box), .string (str x.dest), .int .u64 x.validity, .slice au x.uids.length cu, .slice af x.flags.length cf, .int .i64 x.how, .bool x.has, .int .u64 x.since, .string (str x.hash), .int .u64 x.size, .int .u64 x.sweeps] 26)) (.cells #[.int .i64 m.kind, .int .i64 m.src, .int .i64 m.dest, .int .u64 m.term, .int .u64 m.index, .int .u64 m.logTerm, .int .u64 m.commit, .bool m.ok, .slice ae m.entries.length ce, .slice ac m.conf.length cc, .int .i64 m.offset, .int .i64 m.size, .string (str m.data)] 32)
  rw [World.size_alloc] at hm
  have hB : Below w.heap.size w ((w.alloc (.cells #[.int .i64 x.op, .int .u64 x.session, .int .u64 x.number, .int .i64 x.node, .int .u64 x.life, .int .u64 x.tried, .string (str x.box), .string (str x.dest), .int .u64 x.validity, .slice au x.uids.length cu, .slice af x.flags.length cf, .int .i64 x.how, .bool x.has, .int .u64 x.since, .string (str x.hash), .int .u64 x.size, .int .u64 x.sweeps] 26)).alloc (.cells #[.int .i64 m.kind, .int .i64 m.src, .int .i64 m.dest, .int .u64 m.term, .int .u64 m.index, .int .u64 m.logTerm, .int .u64 m.commit, .bool m.ok, .slice ae m.entries.length ce, .slice ac m.conf.length cc, .int .i64 m.offset, .int .i64 m.size, .string (str m.data)] 32)) := ((Below.refl _ _).alloc (Nat.le_refl _) _).alloc (by simp) _
  have HB := hid hB
  have HF := hid (hf.kept (fun j hj _ => hB.block j hj))
  have HE := hid (he.kept (fun j hj _ => hB.block j hj))
  clear hf he hu hc hB
  unfold Rq.cells Ms.cells
  go_enter Try.func9, Try.ntmps9
  go_wp2_with fail
  go_ret
  exact ⟨false, rfl, (fun h => by cases h), HB.out⟩
set_option maxRecDepth 100000 in
set_option maxHeartbeats 2000000 in
theorem light_no2 (x : Rq) (m : Ms) (vu vf ve vc : Value) (w : World) (D1 D2 D3 D4 : List Nat) (hu : Cells D1 w vu x.uids.length (rgVals x.uids)) (hf : Cells D2 w vf x.flags.length (strVals x.flags)) (he : Cells D3 w ve m.entries.length (enVals m.entries)) (hc : Cells D4 w vc m.conf.length (intVals m.conf)) (hf2 : ∀ f ∈ x.flags, f.length ≤ maxLen) (he2 : ∀ e ∈ m.entries, e.data.length ≤ maxLen) (hb : x.box.length ≤ maxLen) (hd : x.dest.length ≤ maxLen) (hh : x.hash.length ≤ maxLen) (hdd : m.data.length ≤ maxLen) (p0 : x.uids.length ≤ 1000) (p1 : x.flags.length ≤ 1000) (n2 : ¬ m.entries.length ≤ 100) :
    Calls Try.prog 9 #[.agg (x.cells vu vf), .agg (m.cells ve vc)] w (SomeLight x m w) := by
  have HN := hid n2
  obtain ⟨au, cu, rfl⟩ := hu.form
  obtain ⟨af, cf, rfl⟩ := hf.form
  obtain ⟨ae, ce, rfl⟩ := he.form
  obtain ⟨ac, cc, rfl⟩ := hc.form
  have hk := blk_alloc (heap_alloc_new w (.cells #[.int .i64 x.op, .int .u64 x.session, .int .u64 x.number, .int .i64 x.node, .int .u64 x.life, .int .u64 x.tried, .string (str x.box), .string (str x.dest), .int .u64 x.validity, .slice au x.uids.length cu, .slice af x.flags.length cf, .int .i64 x.how, .bool x.has, .int .u64 x.since, .string (str x.hash), .int .u64 x.size, .int .u64 x.sweeps] 26)) (.cells #[.int .i64 m.kind, .int .i64 m.src, .int .i64 m.dest, .int .u64 m.term, .int .u64 m.index, .int .u64 m.logTerm, .int .u64 m.commit, .bool m.ok, .slice ae m.entries.length ce, .slice ac m.conf.length cc, .int .i64 m.offset, .int .i64 m.size, .string (str m.data)] 32)
  have hm := heap_alloc_new (w.alloc (.cells #[.int .i64 x.op, .int .u64 x.session, .int .u64 x.number, .int .i64 x.node, .int .u64 x.life, .int .u64 x.tried, .string (str x.box), .string (str x.dest), .int .u64 x.validity, .slice au x.uids.length cu, .slice af x.flags.length cf, .int .i64 x.how, .bool x.has, .int .u64 x.since, .string (str x.hash), .int .u64 x.size, .int .u64 x.sweeps] 26)) (.cells #[.int .i64 m.kind, .int .i64 m.src, .int .i64 m.dest, .int .u64 m.term, .int .u64 m.index, .int .u64 m.logTerm, .int .u64 m.commit, .bool m.ok, .slice ae m.entries.length ce, .slice ac m.conf.length cc, .int .i64 m.offset, .int .i64 m.size, .string (str m.data)] 32)
  rw [World.size_alloc] at hm
  have hB : Below w.heap.size w ((w.alloc (.cells #[.int .i64 x.op, .int .u64 x.session, .int .u64 x.number, .int .i64 x.node, .int .u64 x.life, .int .u64 x.tried, .string (str x.box), .string (str x.dest), .int .u64 x.validity, .slice au x.uids.length cu, .slice af x.flags.length cf, .int .i64 x.how, .bool x.has, .int .u64 x.since, .string (str x.hash), .int .u64 x.size, .int .u64 x.sweeps] 26)).alloc (.cells #[.int .i64 m.kind, .int .i64 m.src, .int .i64 m.dest, .int .u64 m.term, .int .u64 m.index, .int .u64 m.logTerm, .int .u64 m.commit, .bool m.ok, .slice ae m.entries.length ce, .slice ac m.conf.length cc, .int .i64 m.offset, .int .i64 m.size, .string (str m.data)] 32)) := ((Below.refl _ _).alloc (Nat.le_refl _) _).alloc (by simp) _
  have HB := hid hB
  have HF := hid (hf.kept (fun j hj _ => hB.block j hj))
  have HE := hid (he.kept (fun j hj _ => hB.block j hj))
  clear hf he hu hc hB
  unfold Rq.cells Ms.cells
  go_enter Try.func9, Try.ntmps9
  go_wp2_with fail
  go_ret
  exact ⟨false, rfl, (fun h => by cases h), HB.out⟩
set_option maxRecDepth 100000 in
set_option maxHeartbeats 2000000 in
theorem light_no3 (x : Rq) (m : Ms) (vu vf ve vc : Value) (w : World) (D1 D2 D3 D4 : List Nat) (hu : Cells D1 w vu x.uids.length (rgVals x.uids)) (hf : Cells D2 w vf x.flags.length (strVals x.flags)) (he : Cells D3 w ve m.entries.length (enVals m.entries)) (hc : Cells D4 w vc m.conf.length (intVals m.conf)) (hf2 : ∀ f ∈ x.flags, f.length ≤ maxLen) (he2 : ∀ e ∈ m.entries, e.data.length ≤ maxLen) (hb : x.box.length ≤ maxLen) (hd : x.dest.length ≤ maxLen) (hh : x.hash.length ≤ maxLen) (hdd : m.data.length ≤ maxLen) (p0 : x.uids.length ≤ 1000) (p1 : x.flags.length ≤ 1000) (p2 : m.entries.length ≤ 100) (n3 : ¬ m.conf.length ≤ 1000) :
    Calls Try.prog 9 #[.agg (x.cells vu vf), .agg (m.cells ve vc)] w (SomeLight x m w) := by
  have HN := hid n3
  obtain ⟨au, cu, rfl⟩ := hu.form
  obtain ⟨af, cf, rfl⟩ := hf.form
  obtain ⟨ae, ce, rfl⟩ := he.form
  obtain ⟨ac, cc, rfl⟩ := hc.form
  have hk := blk_alloc (heap_alloc_new w (.cells #[.int .i64 x.op, .int .u64 x.session, .int .u64 x.number, .int .i64 x.node, .int .u64 x.life, .int .u64 x.tried, .string (str x.box), .string (str x.dest), .int .u64 x.validity, .slice au x.uids.length cu, .slice af x.flags.length cf, .int .i64 x.how, .bool x.has, .int .u64 x.since, .string (str x.hash), .int .u64 x.size, .int .u64 x.sweeps] 26)) (.cells #[.int .i64 m.kind, .int .i64 m.src, .int .i64 m.dest, .int .u64 m.term, .int .u64 m.index, .int .u64 m.logTerm, .int .u64 m.commit, .bool m.ok, .slice ae m.entries.length ce, .slice ac m.conf.length cc, .int .i64 m.offset, .int .i64 m.size, .string (str m.data)] 32)
  have hm := heap_alloc_new (w.alloc (.cells #[.int .i64 x.op, .int .u64 x.session, .int .u64 x.number, .int .i64 x.node, .int .u64 x.life, .int .u64 x.tried, .string (str x.box), .string (str x.dest), .int .u64 x.validity, .slice au x.uids.length cu, .slice af x.flags.length cf, .int .i64 x.how, .bool x.has, .int .u64 x.since, .string (str x.hash), .int .u64 x.size, .int .u64 x.sweeps] 26)) (.cells #[.int .i64 m.kind, .int .i64 m.src, .int .i64 m.dest, .int .u64 m.term, .int .u64 m.index, .int .u64 m.logTerm, .int .u64 m.commit, .bool m.ok, .slice ae m.entries.length ce, .slice ac m.conf.length cc, .int .i64 m.offset, .int .i64 m.size, .string (str m.data)] 32)
  rw [World.size_alloc] at hm
  have hB : Below w.heap.size w ((w.alloc (.cells #[.int .i64 x.op, .int .u64 x.session, .int .u64 x.number, .int .i64 x.node, .int .u64 x.life, .int .u64 x.tried, .string (str x.box), .string (str x.dest), .int .u64 x.validity, .slice au x.uids.length cu, .slice af x.flags.length cf, .int .i64 x.how, .bool x.has, .int .u64 x.since, .string (str x.hash), .int .u64 x.size, .int .u64 x.sweeps] 26)).alloc (.cells #[.int .i64 m.kind, .int .i64 m.src, .int .i64 m.dest, .int .u64 m.term, .int .u64 m.index, .int .u64 m.logTerm, .int .u64 m.commit, .bool m.ok, .slice ae m.entries.length ce, .slice ac m.conf.length cc, .int .i64 m.offset, .int .i64 m.size, .string (str m.data)] 32)) := ((Below.refl _ _).alloc (Nat.le_refl _) _).alloc (by simp) _
  have HB := hid hB
  have HF := hid (hf.kept (fun j hj _ => hB.block j hj))
  have HE := hid (he.kept (fun j hj _ => hB.block j hj))
  clear hf he hu hc hB
  unfold Rq.cells Ms.cells
  go_enter Try.func9, Try.ntmps9
  go_wp2_with fail
  go_ret
  exact ⟨false, rfl, (fun h => by cases h), HB.out⟩
set_option maxRecDepth 100000 in
set_option maxHeartbeats 4000000 in
theorem light_yes (x : Rq) (m : Ms) (vu vf ve vc : Value) (w : World) (D1 D2 D3 D4 : List Nat) (hu : Cells D1 w vu x.uids.length (rgVals x.uids)) (hf : Cells D2 w vf x.flags.length (strVals x.flags)) (he : Cells D3 w ve m.entries.length (enVals m.entries)) (hc : Cells D4 w vc m.conf.length (intVals m.conf)) (hf2 : ∀ f ∈ x.flags, f.length ≤ maxLen) (he2 : ∀ e ∈ m.entries, e.data.length ≤ maxLen) (hb : x.box.length ≤ maxLen) (hd : x.dest.length ≤ maxLen) (hh : x.hash.length ≤ maxLen) (hdd : m.data.length ≤ maxLen) (p0 : x.uids.length ≤ 1000) (p1 : x.flags.length ≤ 1000) (p2 : m.entries.length ≤ 100) (p3 : m.conf.length ≤ 1000) :
    Calls Try.prog 9 #[.agg (x.cells vu vf), .agg (m.cells ve vc)] w (SomeLight x m w) := by
  have z1 : (str x.box).size = x.box.length := str_size _
  have z2 : (str x.dest).size = x.dest.length := str_size _
  have z3 : (str x.hash).size = x.hash.length := str_size _
  have z4 : (str m.data).size = m.data.length := str_size _
  unfold maxLen at hb hd hh hdd
  have HF2 := hid hf2
  have HE2 := hid he2
  clear hf2 he2
  obtain ⟨au, cu, rfl⟩ := hu.form
  obtain ⟨af, cf, rfl⟩ := hf.form
  obtain ⟨ae, ce, rfl⟩ := he.form
  obtain ⟨ac, cc, rfl⟩ := hc.form
  have hk := blk_alloc (heap_alloc_new w (.cells #[.int .i64 x.op, .int .u64 x.session, .int .u64 x.number, .int .i64 x.node, .int .u64 x.life, .int .u64 x.tried, .string (str x.box), .string (str x.dest), .int .u64 x.validity, .slice au x.uids.length cu, .slice af x.flags.length cf, .int .i64 x.how, .bool x.has, .int .u64 x.since, .string (str x.hash), .int .u64 x.size, .int .u64 x.sweeps] 26)) (.cells #[.int .i64 m.kind, .int .i64 m.src, .int .i64 m.dest, .int .u64 m.term, .int .u64 m.index, .int .u64 m.logTerm, .int .u64 m.commit, .bool m.ok, .slice ae m.entries.length ce, .slice ac m.conf.length cc, .int .i64 m.offset, .int .i64 m.size, .string (str m.data)] 32)
  have hm := heap_alloc_new (w.alloc (.cells #[.int .i64 x.op, .int .u64 x.session, .int .u64 x.number, .int .i64 x.node, .int .u64 x.life, .int .u64 x.tried, .string (str x.box), .string (str x.dest), .int .u64 x.validity, .slice au x.uids.length cu, .slice af x.flags.length cf, .int .i64 x.how, .bool x.has, .int .u64 x.since, .string (str x.hash), .int .u64 x.size, .int .u64 x.sweeps] 26)) (.cells #[.int .i64 m.kind, .int .i64 m.src, .int .i64 m.dest, .int .u64 m.term, .int .u64 m.index, .int .u64 m.logTerm, .int .u64 m.commit, .bool m.ok, .slice ae m.entries.length ce, .slice ac m.conf.length cc, .int .i64 m.offset, .int .i64 m.size, .string (str m.data)] 32)
  rw [World.size_alloc] at hm
  have hB : Below w.heap.size w ((w.alloc (.cells #[.int .i64 x.op, .int .u64 x.session, .int .u64 x.number, .int .i64 x.node, .int .u64 x.life, .int .u64 x.tried, .string (str x.box), .string (str x.dest), .int .u64 x.validity, .slice au x.uids.length cu, .slice af x.flags.length cf, .int .i64 x.how, .bool x.has, .int .u64 x.since, .string (str x.hash), .int .u64 x.size, .int .u64 x.sweeps] 26)).alloc (.cells #[.int .i64 m.kind, .int .i64 m.src, .int .i64 m.dest, .int .u64 m.term, .int .u64 m.index, .int .u64 m.logTerm, .int .u64 m.commit, .bool m.ok, .slice ae m.entries.length ce, .slice ac m.conf.length cc, .int .i64 m.offset, .int .i64 m.size, .string (str m.data)] 32)) := ((Below.refl _ _).alloc (Nat.le_refl _) _).alloc (by simp) _
  have HB := hid hB
  have HF := hid (hf.kept (fun j hj _ => hB.block j hj))
  have HE := hid (he.kept (fun j hj _ => hB.block j hj))
  clear hf he hu hc hB
  unfold Rq.cells Ms.cells
  go_enter Try.func9, Try.ntmps9
  go_wp2_with fail
  go_quiet ((go_at_call 20; exact Calls.quiet_of_same (few_same _ _)))
  go_wp2_with fail
  have HK := hid (show (((w.alloc (.cells #[.int .i64 x.op, .int .u64 x.session, .int .u64 x.number, .int .i64 x.node, .int .u64 x.life, .int .u64 x.tried, .string (str x.box), .string (str x.dest), .int .u64 x.validity, .slice au x.uids.length cu, .slice af x.flags.length cf, .int .i64 x.how, .bool x.has, .int .u64 x.since, .string (str x.hash), .int .u64 x.size, .int .u64 x.sweeps] 26)).alloc (.cells #[.int .i64 m.kind, .int .i64 m.src, .int .i64 m.dest, .int .u64 m.term, .int .u64 m.index, .int .u64 m.logTerm, .int .u64 m.commit, .bool m.ok, .slice ae m.entries.length ce, .slice ac m.conf.length cc, .int .i64 m.offset, .int .i64 m.size, .string (str m.data)] 32)).drewN nq).heap[w.heap.size]? = _ from hk)
  have HM := hid (show (((w.alloc (.cells #[.int .i64 x.op, .int .u64 x.session, .int .u64 x.number, .int .i64 x.node, .int .u64 x.life, .int .u64 x.tried, .string (str x.box), .string (str x.dest), .int .u64 x.validity, .slice au x.uids.length cu, .slice af x.flags.length cf, .int .i64 x.how, .bool x.has, .int .u64 x.since, .string (str x.hash), .int .u64 x.size, .int .u64 x.sweeps] 26)).alloc (.cells #[.int .i64 m.kind, .int .i64 m.src, .int .i64 m.dest, .int .u64 m.term, .int .u64 m.index, .int .u64 m.logTerm, .int .u64 m.commit, .bool m.ok, .slice ae m.entries.length ce, .slice ac m.conf.length cc, .int .i64 m.offset, .int .i64 m.size, .string (str m.data)] 32)).drewN nq).heap[w.heap.size + 1]? = _ from hm)
  have HB1 : Hid (Below w.heap.size w (((w.alloc (.cells #[.int .i64 x.op, .int .u64 x.session, .int .u64 x.number, .int .i64 x.node, .int .u64 x.life, .int .u64 x.tried, .string (str x.box), .string (str x.dest), .int .u64 x.validity, .slice au x.uids.length cu, .slice af x.flags.length cf, .int .i64 x.how, .bool x.has, .int .u64 x.since, .string (str x.hash), .int .u64 x.size, .int .u64 x.sweeps] 26)).alloc (.cells #[.int .i64 m.kind, .int .i64 m.src, .int .i64 m.dest, .int .u64 m.term, .int .u64 m.index, .int .u64 m.logTerm, .int .u64 m.commit, .bool m.ok, .slice ae m.entries.length ce, .slice ac m.conf.length cc, .int .i64 m.offset, .int .i64 m.size, .string (str m.data)] 32)).drewN nq)) := ⟨HB.out.os, HB.out.tape, HB.out.output, HB.out.size, HB.out.block⟩
  have HF1 : Hid (Cells D2 (((w.alloc (.cells #[.int .i64 x.op, .int .u64 x.session, .int .u64 x.number, .int .i64 x.node, .int .u64 x.life, .int .u64 x.tried, .string (str x.box), .string (str x.dest), .int .u64 x.validity, .slice au x.uids.length cu, .slice af x.flags.length cf, .int .i64 x.how, .bool x.has, .int .u64 x.since, .string (str x.hash), .int .u64 x.size, .int .u64 x.sweeps] 26)).alloc (.cells #[.int .i64 m.kind, .int .i64 m.src, .int .i64 m.dest, .int .u64 m.term, .int .u64 m.index, .int .u64 m.logTerm, .int .u64 m.commit, .bool m.ok, .slice ae m.entries.length ce, .slice ac m.conf.length cc, .int .i64 m.offset, .int .i64 m.size, .string (str m.data)] 32)).drewN nq) (.slice af x.flags.length cf) x.flags.length (strVals x.flags)) := HF.out
  have HE1 : Hid (Cells D3 (((w.alloc (.cells #[.int .i64 x.op, .int .u64 x.session, .int .u64 x.number, .int .i64 x.node, .int .u64 x.life, .int .u64 x.tried, .string (str x.box), .string (str x.dest), .int .u64 x.validity, .slice au x.uids.length cu, .slice af x.flags.length cf, .int .i64 x.how, .bool x.has, .int .u64 x.since, .string (str x.hash), .int .u64 x.size, .int .u64 x.sweeps] 26)).alloc (.cells #[.int .i64 m.kind, .int .i64 m.src, .int .i64 m.dest, .int .u64 m.term, .int .u64 m.index, .int .u64 m.logTerm, .int .u64 m.commit, .bool m.ok, .slice ae m.entries.length ce, .slice ac m.conf.length cc, .int .i64 m.offset, .int .i64 m.size, .string (str m.data)] 32)).drewN nq) (.slice ae m.entries.length ce) m.entries.length (enVals m.entries)) := HE.out
  clear hk hm HB HF HE
  generalize ((w.alloc (.cells #[.int .i64 x.op, .int .u64 x.session, .int .u64 x.number, .int .i64 x.node, .int .u64 x.life, .int .u64 x.tried, .string (str x.box), .string (str x.dest), .int .u64 x.validity, .slice au x.uids.length cu, .slice af x.flags.length cf, .int .i64 x.how, .bool x.has, .int .u64 x.since, .string (str x.hash), .int .u64 x.size, .int .u64 x.sweeps] 26)).alloc (.cells #[.int .i64 m.kind, .int .i64 m.src, .int .i64 m.dest, .int .u64 m.term, .int .u64 m.index, .int .u64 m.logTerm, .int .u64 m.commit, .bool m.ok, .slice ae m.entries.length ce, .slice ac m.conf.length cc, .int .i64 m.offset, .int .i64 m.size, .string (str m.data)] 32)).drewN nq = W at *
  generalize w.heap.size + 1 = g at HM ⊢
  generalize hke : w.heap.size = k at HK ⊢
  clear hke
  have c10 : W.cell? ⟨k, 10, none⟩ = some (.slice af x.flags.length cf) := cell_in HK.out 10 _ rfl
  have d8 : W.cell? ⟨g, 8, none⟩ = some (.slice ae m.entries.length ce) := cell_in HM.out 8 _ rfl
  obtain ⟨_, hcf, hcell⟩ := HF1.out.at
  have HX := hid hcell
  obtain ⟨_, hce, hcelle⟩ := HE1.out.at
  have HXE := hid hcelle
  clear hcell hcelle
  go_loop [5, 6] (fun n i => ∃ (j : Nat) (z : Int), j ≤ x.flags.length ∧ i = .int .i64 j ∧ n = .int .i64 z) (fun _ i => x.flags.length - (intOf i).toNat)
  case atStart => exact ⟨0, _, Nat.zero_le _, rfl, rfl⟩
  case round =>
    obtain ⟨j, z, hj, rfl, rfl⟩ := hrel
    by_cases hlt : j < x.flags.length
    · obtain ⟨b, off, rfl, hcell⟩ := HX.out (by rw [strVals_len]; omega)
      have hx := hcell W (Below.refl _ _) _ _ (strVals_at x.flags j hlt)
      have hfl := HF2.out _ (List.getElem_mem hlt)
      unfold maxLen at hfl
      have hzs : (str x.flags[j]).size = x.flags[j].length := str_size _
      clear hcell
      generalize x.flags[j] = f at *
      go_wp2_with fail
      refine Calls.mono (few_any _ _) ?_
      rintro e w' ⟨rfl, rfl⟩
      go_wp2_with fail
      go_round
      case rel => exact ⟨j + 1, _, by omega, by go_num, rfl⟩
      case measure => simp [intOf]; omega
    · go_wp2_with fail
      go_loop [5, 7] (fun n i => ∃ (j : Nat) (z : Int), j ≤ m.entries.length ∧ i = .int .i64 j ∧ n = .int .i64 z) (fun _ i => m.entries.length - (intOf i).toNat)
      case atStart => exact ⟨0, _, Nat.zero_le _, rfl, rfl⟩
      case round =>
        obtain ⟨j2, z2, hj2, rfl, rfl⟩ := hrel
        by_cases hlt2 : j2 < m.entries.length
        · obtain ⟨b, off, rfl, hcell⟩ := HXE.out (by rw [enVals_len]; omega)
          have hx := hcell W (Below.refl _ _) _ _ (enVals_at m.entries j2 hlt2).2.2
          rw [show off + (j2 * 3 + 2) = off + j2 * 3 + 2 by omega] at hx
          have hfl := HE2.out _ (List.getElem_mem hlt2)
          unfold maxLen at hfl
          have hzs : (str m.entries[j2].data).size = m.entries[j2].data.length := str_size _
          clear hcell
          generalize m.entries[j2].data = f at *
          go_wp2_with fail
          refine Calls.mono (few_any _ _) ?_
          rintro e w' ⟨rfl, rfl⟩
          go_wp2_with fail
          go_round
          case rel => exact ⟨j2 + 1, _, by omega, by go_num, rfl⟩
          case measure => simp [intOf]; omega
        · go_wp2_with fail
          go_ret
          exact ⟨_, rfl, fun _ => ⟨p0, p1, p2, p3⟩, HB1.out⟩
theorem light_any (x : Rq) (m : Ms) (vu vf ve vc : Value) (w : World) (D1 D2 D3 D4 : List Nat) (hu : Cells D1 w vu x.uids.length (rgVals x.uids)) (hf : Cells D2 w vf x.flags.length (strVals x.flags)) (he : Cells D3 w ve m.entries.length (enVals m.entries)) (hc : Cells D4 w vc m.conf.length (intVals m.conf)) (hf2 : ∀ f ∈ x.flags, f.length ≤ maxLen) (he2 : ∀ e ∈ m.entries, e.data.length ≤ maxLen) (hb : x.box.length ≤ maxLen) (hd : x.dest.length ≤ maxLen) (hh : x.hash.length ≤ maxLen) (hdd : m.data.length ≤ maxLen) :
    Calls Try.prog 9 #[.agg (x.cells vu vf), .agg (m.cells ve vc)] w (SomeLight x m w) := by
  by_cases p0 : x.uids.length ≤ 1000
  · by_cases p1 : x.flags.length ≤ 1000
    · by_cases p2 : m.entries.length ≤ 100
      · by_cases p3 : m.conf.length ≤ 1000
        · exact light_yes x m vu vf ve vc w D1 D2 D3 D4 hu hf he hc hf2 he2 hb hd hh hdd p0 p1 p2 p3
        · exact light_no3 x m vu vf ve vc w D1 D2 D3 D4 hu hf he hc hf2 he2 hb hd hh hdd p0 p1 p2 p3
      · exact light_no2 x m vu vf ve vc w D1 D2 D3 D4 hu hf he hc hf2 he2 hb hd hh hdd p0 p1 p2
    · exact light_no1 x m vu vf ve vc w D1 D2 D3 D4 hu hf he hc hf2 he2 hb hd hh hdd p0 p1
  · exact light_no0 x m vu vf ve vc w D1 D2 D3 D4 hu hf he hc hf2 he2 hb hd hh hdd p0
end Go.Proofs.Ytgkapgfpalbkjaa
