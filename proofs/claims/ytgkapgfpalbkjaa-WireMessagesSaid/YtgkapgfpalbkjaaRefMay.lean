/-
  The walk of the reference's MayRequest.
-/
import Derived.Test.YtgkapgfpalbkjaaWWriteRq
namespace Go.Proofs.Ytgkapgfpalbkjaa
open Go.RowKit
set_option linter.unusedVariables false
set_option linter.unusedSimpArgs false
theorem mayRq_of {x : Rq} (h1 : 0 ≤ x.op ∧ x.op ≤ 10) (h2 : 0 ≤ x.node ∧ x.node ≤ 5) (h3 : x.box.length ≤ 64) (h4 : x.dest.length ≤ 64) (h5 : x.uids.length ≤ 64) (h6 : ∀ r ∈ x.uids, r.1 ≤ 4294967295 ∧ r.2 ≤ 4294967295) (h7 : x.flags.length ≤ 16) (h8 : ∀ f ∈ x.flags, f.length ≤ 32) (h9 : 0 ≤ x.how ∧ x.how ≤ 2) (h10 : x.hash.length ≤ 32) : mayRq x = true := by
  unfold mayRq withinB
  simp only [Bool.and_eq_true, decide_eq_true_eq, Bool.not_eq_true', List.any_eq_false]
  refine ⟨h1, h2, h3, h4, h5, fun r hr => ?_, h7, fun f hf => ?_, h9, h10⟩
  · have := h6 r hr
    unfold greatP
    simp only [decide_eq_true_eq]
    omega
  · have := h8 f hf
    unfold longP
    simp only [decide_eq_true_eq]
    omega
set_option maxRecDepth 100000 in
set_option maxHeartbeats 2000000 in
theorem refMay_no0 (x : Rq) (vu vf : Value) (w : World) (D : List Nat) (hu : Cells D w vu x.uids.length (rgVals x.uids)) (hf : Cells D w vf x.flags.length (strVals x.flags)) (hul : x.uids.length ≤ 1152921504606846976) (hfl : x.flags.length ≤ 1152921504606846976) (hm : ∀ f ∈ x.flags, f.length ≤ maxLen) (hb : x.box.length ≤ maxLen) (hd : x.dest.length ≤ maxLen) (hh : x.hash.length ≤ maxLen)  (n0 : ¬ 0 ≤ x.op) :
    Calls Try.prog 29 #[.agg (x.cells vu vf)] w fun e w' => e = .returned (.bool (mayRq x)) ∧ Below w.heap.size w w' := by
  have HN := hid (show mayRq x = false by
    cases h : mayRq x
    · rfl
    · have hp := mayRq_parts h
      exact absurd (by first | exact hp.1.1 | exact hp.1.2 | exact hp.2.1.1 | exact hp.2.1.2 | exact hp.2.2.1 | exact hp.2.2.2.1 | exact hp.2.2.2.2.1 | exact hp.2.2.2.2.2.2.1 | exact hp.2.2.2.2.2.2.2.2.1.1 | exact hp.2.2.2.2.2.2.2.2.1.2 | exact hp.2.2.2.2.2.2.2.2.2) n0)
  have n0' := (by omega : x.op < 0)
  have z1 : (str x.box).size = x.box.length := str_size _
  have z2 : (str x.dest).size = x.dest.length := str_size _
  have z3 : (str x.hash).size = x.hash.length := str_size _
  unfold maxLen at hb hd hh
  obtain ⟨au, cu, rfl⟩ := hu.form
  obtain ⟨af, cf, rfl⟩ := hf.form
  clear hu hf n0
  unfold Rq.cells
  go_enter Try.func29, Try.ntmps29
  go_wp2_with fail
  go_ret
  rw [HN.out]
  exact ⟨rfl, (Below.refl _ _).alloc (Nat.le_refl _) _⟩
set_option maxRecDepth 100000 in
set_option maxHeartbeats 2000000 in
theorem refMay_no1 (x : Rq) (vu vf : Value) (w : World) (D : List Nat) (hu : Cells D w vu x.uids.length (rgVals x.uids)) (hf : Cells D w vf x.flags.length (strVals x.flags)) (hul : x.uids.length ≤ 1152921504606846976) (hfl : x.flags.length ≤ 1152921504606846976) (hm : ∀ f ∈ x.flags, f.length ≤ maxLen) (hb : x.box.length ≤ maxLen) (hd : x.dest.length ≤ maxLen) (hh : x.hash.length ≤ maxLen) (p0 : 0 ≤ x.op) (n1 : ¬ x.op ≤ 10) :
    Calls Try.prog 29 #[.agg (x.cells vu vf)] w fun e w' => e = .returned (.bool (mayRq x)) ∧ Below w.heap.size w w' := by
  have HN := hid (show mayRq x = false by
    cases h : mayRq x
    · rfl
    · have hp := mayRq_parts h
      exact absurd (by first | exact hp.1.1 | exact hp.1.2 | exact hp.2.1.1 | exact hp.2.1.2 | exact hp.2.2.1 | exact hp.2.2.2.1 | exact hp.2.2.2.2.1 | exact hp.2.2.2.2.2.2.1 | exact hp.2.2.2.2.2.2.2.2.1.1 | exact hp.2.2.2.2.2.2.2.2.1.2 | exact hp.2.2.2.2.2.2.2.2.2) n1)
  have n1' := (by omega : x.op > 10)
  have z1 : (str x.box).size = x.box.length := str_size _
  have z2 : (str x.dest).size = x.dest.length := str_size _
  have z3 : (str x.hash).size = x.hash.length := str_size _
  unfold maxLen at hb hd hh
  obtain ⟨au, cu, rfl⟩ := hu.form
  obtain ⟨af, cf, rfl⟩ := hf.form
  clear hu hf n1
  unfold Rq.cells
  go_enter Try.func29, Try.ntmps29
  go_wp2_with fail
  go_ret
  rw [HN.out]
  exact ⟨rfl, (Below.refl _ _).alloc (Nat.le_refl _) _⟩
set_option maxRecDepth 100000 in
set_option maxHeartbeats 2000000 in
theorem refMay_no2 (x : Rq) (vu vf : Value) (w : World) (D : List Nat) (hu : Cells D w vu x.uids.length (rgVals x.uids)) (hf : Cells D w vf x.flags.length (strVals x.flags)) (hul : x.uids.length ≤ 1152921504606846976) (hfl : x.flags.length ≤ 1152921504606846976) (hm : ∀ f ∈ x.flags, f.length ≤ maxLen) (hb : x.box.length ≤ maxLen) (hd : x.dest.length ≤ maxLen) (hh : x.hash.length ≤ maxLen) (p0 : 0 ≤ x.op) (p1 : x.op ≤ 10) (n2 : ¬ 0 ≤ x.node) :
    Calls Try.prog 29 #[.agg (x.cells vu vf)] w fun e w' => e = .returned (.bool (mayRq x)) ∧ Below w.heap.size w w' := by
  have HN := hid (show mayRq x = false by
    cases h : mayRq x
    · rfl
    · have hp := mayRq_parts h
      exact absurd (by first | exact hp.1.1 | exact hp.1.2 | exact hp.2.1.1 | exact hp.2.1.2 | exact hp.2.2.1 | exact hp.2.2.2.1 | exact hp.2.2.2.2.1 | exact hp.2.2.2.2.2.2.1 | exact hp.2.2.2.2.2.2.2.2.1.1 | exact hp.2.2.2.2.2.2.2.2.1.2 | exact hp.2.2.2.2.2.2.2.2.2) n2)
  have n2' := (by omega : x.node < 0)
  have z1 : (str x.box).size = x.box.length := str_size _
  have z2 : (str x.dest).size = x.dest.length := str_size _
  have z3 : (str x.hash).size = x.hash.length := str_size _
  unfold maxLen at hb hd hh
  obtain ⟨au, cu, rfl⟩ := hu.form
  obtain ⟨af, cf, rfl⟩ := hf.form
  clear hu hf n2
  unfold Rq.cells
  go_enter Try.func29, Try.ntmps29
  go_wp2_with fail
  go_ret
  rw [HN.out]
  exact ⟨rfl, (Below.refl _ _).alloc (Nat.le_refl _) _⟩
set_option maxRecDepth 100000 in
set_option maxHeartbeats 2000000 in
theorem refMay_no3 (x : Rq) (vu vf : Value) (w : World) (D : List Nat) (hu : Cells D w vu x.uids.length (rgVals x.uids)) (hf : Cells D w vf x.flags.length (strVals x.flags)) (hul : x.uids.length ≤ 1152921504606846976) (hfl : x.flags.length ≤ 1152921504606846976) (hm : ∀ f ∈ x.flags, f.length ≤ maxLen) (hb : x.box.length ≤ maxLen) (hd : x.dest.length ≤ maxLen) (hh : x.hash.length ≤ maxLen) (p0 : 0 ≤ x.op) (p1 : x.op ≤ 10) (p2 : 0 ≤ x.node) (n3 : ¬ x.node ≤ 5) :
    Calls Try.prog 29 #[.agg (x.cells vu vf)] w fun e w' => e = .returned (.bool (mayRq x)) ∧ Below w.heap.size w w' := by
  have HN := hid (show mayRq x = false by
    cases h : mayRq x
    · rfl
    · have hp := mayRq_parts h
      exact absurd (by first | exact hp.1.1 | exact hp.1.2 | exact hp.2.1.1 | exact hp.2.1.2 | exact hp.2.2.1 | exact hp.2.2.2.1 | exact hp.2.2.2.2.1 | exact hp.2.2.2.2.2.2.1 | exact hp.2.2.2.2.2.2.2.2.1.1 | exact hp.2.2.2.2.2.2.2.2.1.2 | exact hp.2.2.2.2.2.2.2.2.2) n3)
  have n3' := (by omega : x.node > 5)
  have z1 : (str x.box).size = x.box.length := str_size _
  have z2 : (str x.dest).size = x.dest.length := str_size _
  have z3 : (str x.hash).size = x.hash.length := str_size _
  unfold maxLen at hb hd hh
  obtain ⟨au, cu, rfl⟩ := hu.form
  obtain ⟨af, cf, rfl⟩ := hf.form
  clear hu hf n3
  unfold Rq.cells
  go_enter Try.func29, Try.ntmps29
  go_wp2_with fail
  go_ret
  rw [HN.out]
  exact ⟨rfl, (Below.refl _ _).alloc (Nat.le_refl _) _⟩
set_option maxRecDepth 100000 in
set_option maxHeartbeats 2000000 in
theorem refMay_no4 (x : Rq) (vu vf : Value) (w : World) (D : List Nat) (hu : Cells D w vu x.uids.length (rgVals x.uids)) (hf : Cells D w vf x.flags.length (strVals x.flags)) (hul : x.uids.length ≤ 1152921504606846976) (hfl : x.flags.length ≤ 1152921504606846976) (hm : ∀ f ∈ x.flags, f.length ≤ maxLen) (hb : x.box.length ≤ maxLen) (hd : x.dest.length ≤ maxLen) (hh : x.hash.length ≤ maxLen) (p0 : 0 ≤ x.op) (p1 : x.op ≤ 10) (p2 : 0 ≤ x.node) (p3 : x.node ≤ 5) (n4 : ¬ x.box.length ≤ 64) :
    Calls Try.prog 29 #[.agg (x.cells vu vf)] w fun e w' => e = .returned (.bool (mayRq x)) ∧ Below w.heap.size w w' := by
  have HN := hid (show mayRq x = false by
    cases h : mayRq x
    · rfl
    · have hp := mayRq_parts h
      exact absurd (by first | exact hp.1.1 | exact hp.1.2 | exact hp.2.1.1 | exact hp.2.1.2 | exact hp.2.2.1 | exact hp.2.2.2.1 | exact hp.2.2.2.2.1 | exact hp.2.2.2.2.2.2.1 | exact hp.2.2.2.2.2.2.2.2.1.1 | exact hp.2.2.2.2.2.2.2.2.1.2 | exact hp.2.2.2.2.2.2.2.2.2) n4)
  have n4' := (by omega : x.box.length > 64)
  have z1 : (str x.box).size = x.box.length := str_size _
  have z2 : (str x.dest).size = x.dest.length := str_size _
  have z3 : (str x.hash).size = x.hash.length := str_size _
  unfold maxLen at hb hd hh
  obtain ⟨au, cu, rfl⟩ := hu.form
  obtain ⟨af, cf, rfl⟩ := hf.form
  clear hu hf n4
  unfold Rq.cells
  go_enter Try.func29, Try.ntmps29
  go_wp2_with fail
  go_ret
  rw [HN.out]
  exact ⟨rfl, (Below.refl _ _).alloc (Nat.le_refl _) _⟩
set_option maxRecDepth 100000 in
set_option maxHeartbeats 2000000 in
theorem refMay_no5 (x : Rq) (vu vf : Value) (w : World) (D : List Nat) (hu : Cells D w vu x.uids.length (rgVals x.uids)) (hf : Cells D w vf x.flags.length (strVals x.flags)) (hul : x.uids.length ≤ 1152921504606846976) (hfl : x.flags.length ≤ 1152921504606846976) (hm : ∀ f ∈ x.flags, f.length ≤ maxLen) (hb : x.box.length ≤ maxLen) (hd : x.dest.length ≤ maxLen) (hh : x.hash.length ≤ maxLen) (p0 : 0 ≤ x.op) (p1 : x.op ≤ 10) (p2 : 0 ≤ x.node) (p3 : x.node ≤ 5) (p4 : x.box.length ≤ 64) (n5 : ¬ x.dest.length ≤ 64) :
    Calls Try.prog 29 #[.agg (x.cells vu vf)] w fun e w' => e = .returned (.bool (mayRq x)) ∧ Below w.heap.size w w' := by
  have HN := hid (show mayRq x = false by
    cases h : mayRq x
    · rfl
    · have hp := mayRq_parts h
      exact absurd (by first | exact hp.1.1 | exact hp.1.2 | exact hp.2.1.1 | exact hp.2.1.2 | exact hp.2.2.1 | exact hp.2.2.2.1 | exact hp.2.2.2.2.1 | exact hp.2.2.2.2.2.2.1 | exact hp.2.2.2.2.2.2.2.2.1.1 | exact hp.2.2.2.2.2.2.2.2.1.2 | exact hp.2.2.2.2.2.2.2.2.2) n5)
  have n5' := (by omega : x.dest.length > 64)
  have z1 : (str x.box).size = x.box.length := str_size _
  have z2 : (str x.dest).size = x.dest.length := str_size _
  have z3 : (str x.hash).size = x.hash.length := str_size _
  unfold maxLen at hb hd hh
  obtain ⟨au, cu, rfl⟩ := hu.form
  obtain ⟨af, cf, rfl⟩ := hf.form
  clear hu hf n5
  unfold Rq.cells
  go_enter Try.func29, Try.ntmps29
  go_wp2_with fail
  go_ret
  rw [HN.out]
  exact ⟨rfl, (Below.refl _ _).alloc (Nat.le_refl _) _⟩
set_option maxRecDepth 100000 in
set_option maxHeartbeats 2000000 in
theorem refMay_no6 (x : Rq) (vu vf : Value) (w : World) (D : List Nat) (hu : Cells D w vu x.uids.length (rgVals x.uids)) (hf : Cells D w vf x.flags.length (strVals x.flags)) (hul : x.uids.length ≤ 1152921504606846976) (hfl : x.flags.length ≤ 1152921504606846976) (hm : ∀ f ∈ x.flags, f.length ≤ maxLen) (hb : x.box.length ≤ maxLen) (hd : x.dest.length ≤ maxLen) (hh : x.hash.length ≤ maxLen) (p0 : 0 ≤ x.op) (p1 : x.op ≤ 10) (p2 : 0 ≤ x.node) (p3 : x.node ≤ 5) (p4 : x.box.length ≤ 64) (p5 : x.dest.length ≤ 64) (n6 : ¬ x.uids.length ≤ 64) :
    Calls Try.prog 29 #[.agg (x.cells vu vf)] w fun e w' => e = .returned (.bool (mayRq x)) ∧ Below w.heap.size w w' := by
  have HN := hid (show mayRq x = false by
    cases h : mayRq x
    · rfl
    · have hp := mayRq_parts h
      exact absurd (by first | exact hp.1.1 | exact hp.1.2 | exact hp.2.1.1 | exact hp.2.1.2 | exact hp.2.2.1 | exact hp.2.2.2.1 | exact hp.2.2.2.2.1 | exact hp.2.2.2.2.2.2.1 | exact hp.2.2.2.2.2.2.2.2.1.1 | exact hp.2.2.2.2.2.2.2.2.1.2 | exact hp.2.2.2.2.2.2.2.2.2) n6)
  have n6' := (by omega : x.uids.length > 64)
  have z1 : (str x.box).size = x.box.length := str_size _
  have z2 : (str x.dest).size = x.dest.length := str_size _
  have z3 : (str x.hash).size = x.hash.length := str_size _
  unfold maxLen at hb hd hh
  obtain ⟨au, cu, rfl⟩ := hu.form
  obtain ⟨af, cf, rfl⟩ := hf.form
  clear hu hf n6
  unfold Rq.cells
  go_enter Try.func29, Try.ntmps29
  go_wp2_with fail
  go_ret
  rw [HN.out]
  exact ⟨rfl, (Below.refl _ _).alloc (Nat.le_refl _) _⟩
set_option maxRecDepth 100000 in
set_option maxHeartbeats 2000000 in
theorem refMay_no7 (x : Rq) (vu vf : Value) (w : World) (D : List Nat) (hu : Cells D w vu x.uids.length (rgVals x.uids)) (hf : Cells D w vf x.flags.length (strVals x.flags)) (hul : x.uids.length ≤ 1152921504606846976) (hfl : x.flags.length ≤ 1152921504606846976) (hm : ∀ f ∈ x.flags, f.length ≤ maxLen) (hb : x.box.length ≤ maxLen) (hd : x.dest.length ≤ maxLen) (hh : x.hash.length ≤ maxLen) (p0 : 0 ≤ x.op) (p1 : x.op ≤ 10) (p2 : 0 ≤ x.node) (p3 : x.node ≤ 5) (p4 : x.box.length ≤ 64) (p5 : x.dest.length ≤ 64) (p6 : x.uids.length ≤ 64) (n7 : ¬ x.flags.length ≤ 16) :
    Calls Try.prog 29 #[.agg (x.cells vu vf)] w fun e w' => e = .returned (.bool (mayRq x)) ∧ Below w.heap.size w w' := by
  have HN := hid (show mayRq x = false by
    cases h : mayRq x
    · rfl
    · have hp := mayRq_parts h
      exact absurd (by first | exact hp.1.1 | exact hp.1.2 | exact hp.2.1.1 | exact hp.2.1.2 | exact hp.2.2.1 | exact hp.2.2.2.1 | exact hp.2.2.2.2.1 | exact hp.2.2.2.2.2.2.1 | exact hp.2.2.2.2.2.2.2.2.1.1 | exact hp.2.2.2.2.2.2.2.2.1.2 | exact hp.2.2.2.2.2.2.2.2.2) n7)
  have n7' := (by omega : x.flags.length > 16)
  have z1 : (str x.box).size = x.box.length := str_size _
  have z2 : (str x.dest).size = x.dest.length := str_size _
  have z3 : (str x.hash).size = x.hash.length := str_size _
  unfold maxLen at hb hd hh
  obtain ⟨au, cu, rfl⟩ := hu.form
  obtain ⟨af, cf, rfl⟩ := hf.form
  clear hu hf n7
  unfold Rq.cells
  go_enter Try.func29, Try.ntmps29
  go_wp2_with fail
  go_ret
  rw [HN.out]
  exact ⟨rfl, (Below.refl _ _).alloc (Nat.le_refl _) _⟩
set_option maxRecDepth 100000 in
set_option maxHeartbeats 2000000 in
theorem refMay_no8 (x : Rq) (vu vf : Value) (w : World) (D : List Nat) (hu : Cells D w vu x.uids.length (rgVals x.uids)) (hf : Cells D w vf x.flags.length (strVals x.flags)) (hul : x.uids.length ≤ 1152921504606846976) (hfl : x.flags.length ≤ 1152921504606846976) (hm : ∀ f ∈ x.flags, f.length ≤ maxLen) (hb : x.box.length ≤ maxLen) (hd : x.dest.length ≤ maxLen) (hh : x.hash.length ≤ maxLen) (p0 : 0 ≤ x.op) (p1 : x.op ≤ 10) (p2 : 0 ≤ x.node) (p3 : x.node ≤ 5) (p4 : x.box.length ≤ 64) (p5 : x.dest.length ≤ 64) (p6 : x.uids.length ≤ 64) (p7 : x.flags.length ≤ 16) (n8 : ¬ 0 ≤ x.how) :
    Calls Try.prog 29 #[.agg (x.cells vu vf)] w fun e w' => e = .returned (.bool (mayRq x)) ∧ Below w.heap.size w w' := by
  have HN := hid (show mayRq x = false by
    cases h : mayRq x
    · rfl
    · have hp := mayRq_parts h
      exact absurd (by first | exact hp.1.1 | exact hp.1.2 | exact hp.2.1.1 | exact hp.2.1.2 | exact hp.2.2.1 | exact hp.2.2.2.1 | exact hp.2.2.2.2.1 | exact hp.2.2.2.2.2.2.1 | exact hp.2.2.2.2.2.2.2.2.1.1 | exact hp.2.2.2.2.2.2.2.2.1.2 | exact hp.2.2.2.2.2.2.2.2.2) n8)
  have n8' := (by omega : x.how < 0)
  have z1 : (str x.box).size = x.box.length := str_size _
  have z2 : (str x.dest).size = x.dest.length := str_size _
  have z3 : (str x.hash).size = x.hash.length := str_size _
  unfold maxLen at hb hd hh
  obtain ⟨au, cu, rfl⟩ := hu.form
  obtain ⟨af, cf, rfl⟩ := hf.form
  clear hu hf n8
  unfold Rq.cells
  go_enter Try.func29, Try.ntmps29
  go_wp2_with fail
  go_ret
  rw [HN.out]
  exact ⟨rfl, (Below.refl _ _).alloc (Nat.le_refl _) _⟩
set_option maxRecDepth 100000 in
set_option maxHeartbeats 2000000 in
theorem refMay_no9 (x : Rq) (vu vf : Value) (w : World) (D : List Nat) (hu : Cells D w vu x.uids.length (rgVals x.uids)) (hf : Cells D w vf x.flags.length (strVals x.flags)) (hul : x.uids.length ≤ 1152921504606846976) (hfl : x.flags.length ≤ 1152921504606846976) (hm : ∀ f ∈ x.flags, f.length ≤ maxLen) (hb : x.box.length ≤ maxLen) (hd : x.dest.length ≤ maxLen) (hh : x.hash.length ≤ maxLen) (p0 : 0 ≤ x.op) (p1 : x.op ≤ 10) (p2 : 0 ≤ x.node) (p3 : x.node ≤ 5) (p4 : x.box.length ≤ 64) (p5 : x.dest.length ≤ 64) (p6 : x.uids.length ≤ 64) (p7 : x.flags.length ≤ 16) (p8 : 0 ≤ x.how) (n9 : ¬ x.how ≤ 2) :
    Calls Try.prog 29 #[.agg (x.cells vu vf)] w fun e w' => e = .returned (.bool (mayRq x)) ∧ Below w.heap.size w w' := by
  have HN := hid (show mayRq x = false by
    cases h : mayRq x
    · rfl
    · have hp := mayRq_parts h
      exact absurd (by first | exact hp.1.1 | exact hp.1.2 | exact hp.2.1.1 | exact hp.2.1.2 | exact hp.2.2.1 | exact hp.2.2.2.1 | exact hp.2.2.2.2.1 | exact hp.2.2.2.2.2.2.1 | exact hp.2.2.2.2.2.2.2.2.1.1 | exact hp.2.2.2.2.2.2.2.2.1.2 | exact hp.2.2.2.2.2.2.2.2.2) n9)
  have n9' := (by omega : x.how > 2)
  have z1 : (str x.box).size = x.box.length := str_size _
  have z2 : (str x.dest).size = x.dest.length := str_size _
  have z3 : (str x.hash).size = x.hash.length := str_size _
  unfold maxLen at hb hd hh
  obtain ⟨au, cu, rfl⟩ := hu.form
  obtain ⟨af, cf, rfl⟩ := hf.form
  clear hu hf n9
  unfold Rq.cells
  go_enter Try.func29, Try.ntmps29
  go_wp2_with fail
  go_ret
  rw [HN.out]
  exact ⟨rfl, (Below.refl _ _).alloc (Nat.le_refl _) _⟩
set_option maxRecDepth 100000 in
set_option maxHeartbeats 2000000 in
theorem refMay_no10 (x : Rq) (vu vf : Value) (w : World) (D : List Nat) (hu : Cells D w vu x.uids.length (rgVals x.uids)) (hf : Cells D w vf x.flags.length (strVals x.flags)) (hul : x.uids.length ≤ 1152921504606846976) (hfl : x.flags.length ≤ 1152921504606846976) (hm : ∀ f ∈ x.flags, f.length ≤ maxLen) (hb : x.box.length ≤ maxLen) (hd : x.dest.length ≤ maxLen) (hh : x.hash.length ≤ maxLen) (p0 : 0 ≤ x.op) (p1 : x.op ≤ 10) (p2 : 0 ≤ x.node) (p3 : x.node ≤ 5) (p4 : x.box.length ≤ 64) (p5 : x.dest.length ≤ 64) (p6 : x.uids.length ≤ 64) (p7 : x.flags.length ≤ 16) (p8 : 0 ≤ x.how) (p9 : x.how ≤ 2) (n10 : ¬ x.hash.length ≤ 32) :
    Calls Try.prog 29 #[.agg (x.cells vu vf)] w fun e w' => e = .returned (.bool (mayRq x)) ∧ Below w.heap.size w w' := by
  have HN := hid (show mayRq x = false by
    cases h : mayRq x
    · rfl
    · have hp := mayRq_parts h
      exact absurd (by first | exact hp.1.1 | exact hp.1.2 | exact hp.2.1.1 | exact hp.2.1.2 | exact hp.2.2.1 | exact hp.2.2.2.1 | exact hp.2.2.2.2.1 | exact hp.2.2.2.2.2.2.1 | exact hp.2.2.2.2.2.2.2.2.1.1 | exact hp.2.2.2.2.2.2.2.2.1.2 | exact hp.2.2.2.2.2.2.2.2.2) n10)
  have n10' := (by omega : x.hash.length > 32)
  have z1 : (str x.box).size = x.box.length := str_size _
  have z2 : (str x.dest).size = x.dest.length := str_size _
  have z3 : (str x.hash).size = x.hash.length := str_size _
  unfold maxLen at hb hd hh
  obtain ⟨au, cu, rfl⟩ := hu.form
  obtain ⟨af, cf, rfl⟩ := hf.form
  clear hu hf n10
  unfold Rq.cells
  go_enter Try.func29, Try.ntmps29
  go_wp2_with fail
  go_ret
  rw [HN.out]
  exact ⟨rfl, (Below.refl _ _).alloc (Nat.le_refl _) _⟩
theorem take_all {α : Type} {P : α → Prop} {l : List α} {j : Nat} (h : ∀ x ∈ l.take j, P x) (hj : j < l.length) (hx : P l[j]) : ∀ x ∈ l.take (j + 1), P x := by
  intro x hm
  rw [List.take_succ_eq_append_getElem hj] at hm
  rcases List.mem_append.1 hm with h1 | h1
  · exact h x h1
  · simp at h1; subst h1; exact hx
set_option maxRecDepth 100000 in
set_option maxHeartbeats 4000000 in
theorem refMay_yes (x : Rq) (vu vf : Value) (w : World) (D : List Nat) (hu : Cells D w vu x.uids.length (rgVals x.uids)) (hf : Cells D w vf x.flags.length (strVals x.flags)) (hul : x.uids.length ≤ 1152921504606846976) (hfl : x.flags.length ≤ 1152921504606846976) (hm : ∀ f ∈ x.flags, f.length ≤ maxLen) (hb : x.box.length ≤ maxLen) (hd : x.dest.length ≤ maxLen) (hh : x.hash.length ≤ maxLen) (p0 : 0 ≤ x.op) (p1 : x.op ≤ 10) (p2 : 0 ≤ x.node) (p3 : x.node ≤ 5) (p4 : x.box.length ≤ 64) (p5 : x.dest.length ≤ 64) (p6 : x.uids.length ≤ 64) (p7 : x.flags.length ≤ 16) (p8 : 0 ≤ x.how) (p9 : x.how ≤ 2) (p10 : x.hash.length ≤ 32) :
    Calls Try.prog 29 #[.agg (x.cells vu vf)] w fun e w' => e = .returned (.bool (mayRq x)) ∧ Below w.heap.size w w' := by
  have z1 : (str x.box).size = x.box.length := str_size _
  have z2 : (str x.dest).size = x.dest.length := str_size _
  have z3 : (str x.hash).size = x.hash.length := str_size _
  unfold maxLen at hb hd hh
  obtain ⟨au, cu, rfl⟩ := hu.form
  obtain ⟨af, cf, rfl⟩ := hf.form
  obtain ⟨_, hcf, hcell⟩ := (hf.kept (w' := w.alloc (.cells (x.cells (.slice au x.uids.length cu) (.slice af x.flags.length cf)) 26)) (fun j hj _ => heap_alloc_old _ _ hj)).at
  obtain ⟨_, hcu, hcellu⟩ := (hu.kept (w' := w.alloc (.cells (x.cells (.slice au x.uids.length cu) (.slice af x.flags.length cf)) 26)) (fun j hj _ => heap_alloc_old _ _ hj)).at
  have HX := hid hcell
  have HXU := hid hcellu
  have HM := hid hm
  have HP := hid (fun h6 h8 => mayRq_of (x := x) ⟨p0, p1⟩ ⟨p2, p3⟩ p4 p5 p6 h6 p7 h8 ⟨p8, p9⟩ p10)
  have HQ := hid (fun (h : mayRq x = true) => mayRq_parts h)
  have HB : Hid (Below w.heap.size w (w.alloc (.cells (x.cells (.slice au x.uids.length cu) (.slice af x.flags.length cf)) 26))) := (Below.refl _ _).alloc (Nat.le_refl _) _
  have HK := hid (heap_alloc_new w (.cells (x.cells (.slice au x.uids.length cu) (.slice af x.flags.length cf)) 26))
  clear hcell hcellu hm hu hf
  unfold Rq.cells at *
  go_enter Try.func29, Try.ntmps29
  go_wp2_with fail
  generalize w.alloc (.cells #[.int .i64 x.op, .int .u64 x.session, .int .u64 x.number, .int .i64 x.node, .int .u64 x.life, .int .u64 x.tried, .string (str x.box), .string (str x.dest), .int .u64 x.validity, .slice au x.uids.length cu, .slice af x.flags.length cf, .int .i64 x.how, .bool x.has, .int .u64 x.since, .string (str x.hash), .int .u64 x.size, .int .u64 x.sweeps] 26) = W at *
  generalize hke : w.heap.size = k at HK ⊢
  clear hke
  have c10 : W.cell? ⟨k, 10, none⟩ = some (.slice af x.flags.length cf) := cell_in HK.out 10 _ rfl
  have c9 : W.cell? ⟨k, 9, none⟩ = some (.slice au x.uids.length cu) := cell_in HK.out 9 _ rfl
  go_loop [3] (fun i => ∃ j : Nat, i = .int .i64 j ∧ j ≤ x.flags.length ∧ Hid (∀ f ∈ x.flags.take j, f.length ≤ 32)) (fun i => x.flags.length - (intOf i).toNat)
  case atStart => exact ⟨0, rfl, Nat.zero_le _, (fun f hf => by simp at hf)⟩
  case round =>
    obtain ⟨j, rfl, hj, HT⟩ := hrel
    by_cases hlt : j < x.flags.length
    · obtain ⟨b, off, rfl, hcell⟩ := HX.out (by rw [strVals_len]; omega)
      have hx := hcell W (Below.refl _ _) _ _ (strVals_at x.flags j hlt)
      have hfl := HM.out _ (List.getElem_mem hlt)
      unfold maxLen at hfl
      have HS := hid (fun h => take_all HT.out hlt h)
      have HI := hid (fun (h : ¬ x.flags[j].length ≤ 32) => show mayRq x = false by
        cases hy : mayRq x
        · rfl
        · exact absurd ((HQ.out hy).2.2.2.2.2.2.2.1 _ (List.getElem_mem hlt)) h)
      have hzs : (str x.flags[j]).size = x.flags[j].length := str_size _
      clear hcell
      generalize x.flags[j] = f at *
      by_cases h32 : f.length ≤ 32
      · have HS' := hid (HS.out h32)
        clear HS HI
        go_wp2_with fail
        go_round
        case rel => exact ⟨j + 1, by go_num, by omega, HS'.out⟩
        case measure => simp [intOf]; omega
      · have HI' := hid (HI.out h32)
        clear HS HI
        go_wp2_with fail
        go_ret
        rw [HI'.out]
        exact ⟨rfl, HB.out⟩
    · have HF8 : Hid (∀ f ∈ x.flags, f.length ≤ 32) := by
        have h := HT.out
        rw [List.take_of_length_le (by omega)] at h
        exact h
      go_wp2_with fail
      go_loop [4] (fun i => ∃ j : Nat, i = .int .i64 j ∧ j ≤ x.uids.length ∧ Hid (∀ r ∈ x.uids.take j, r.1 ≤ 4294967295 ∧ r.2 ≤ 4294967295)) (fun i => x.uids.length - (intOf i).toNat)
      case atStart => exact ⟨0, rfl, Nat.zero_le _, (fun f hf => by simp at hf)⟩
      case round =>
        obtain ⟨j2, rfl, hj2, HT2⟩ := hrel
        by_cases hlt2 : j2 < x.uids.length
        · obtain ⟨b, off, rfl, hcell⟩ := HXU.out (by rw [rgVals_len]; omega)
          have hx := hcell W (Below.refl _ _) _ _ (rgVals_at x.uids j2 hlt2).1
          have hy := hcell W (Below.refl _ _) _ _ (rgVals_at x.uids j2 hlt2).2
          rw [show off + (j2 * 2 + 1) = off + j2 * 2 + 1 by omega] at hy
          have HS := hid (fun h => take_all HT2.out hlt2 h)
          have HI := hid (fun (h : ¬ (x.uids[j2].1 ≤ 4294967295 ∧ x.uids[j2].2 ≤ 4294967295)) => show mayRq x = false by
            cases hy : mayRq x
            · rfl
            · exact absurd ((HQ.out hy).2.2.2.2.2.1 _ (List.getElem_mem hlt2)) h)
          clear hcell
          generalize x.uids[j2] = r at *
          obtain ⟨r1, r2⟩ := r
          simp only at HS HI hx hy
          by_cases h1 : r1 ≤ 4294967295
          · by_cases h2 : r2 ≤ 4294967295
            · have HS' := hid (HS.out ⟨h1, h2⟩)
              clear HS HI
              go_wp2_with fail
              go_round
              case rel => exact ⟨j2 + 1, by go_num, by omega, HS'.out⟩
              case measure => simp [intOf]; omega
            · have HI' := hid (HI.out (fun h => h2 h.2))
              clear HS HI
              go_wp2_with fail
              go_ret
              rw [HI'.out]
              exact ⟨rfl, HB.out⟩
          · have HI' := hid (HI.out (fun h => h1 h.1))
            clear HS HI
            go_wp2_with fail
            go_ret
            rw [HI'.out]
            exact ⟨rfl, HB.out⟩
        · have HF6 : Hid (∀ r ∈ x.uids, r.1 ≤ 4294967295 ∧ r.2 ≤ 4294967295) := by
            have h := HT2.out
            rw [List.take_of_length_le (by omega)] at h
            exact h
          have HY := hid (HP.out HF6.out HF8.out)
          go_wp2_with fail
          go_ret
          rw [HY.out]
          exact ⟨rfl, HB.out⟩
theorem refMay_any (x : Rq) (vu vf : Value) (w : World) (D : List Nat) (hu : Cells D w vu x.uids.length (rgVals x.uids)) (hf : Cells D w vf x.flags.length (strVals x.flags)) (hul : x.uids.length ≤ 1152921504606846976) (hfl : x.flags.length ≤ 1152921504606846976) (hm : ∀ f ∈ x.flags, f.length ≤ maxLen) (hb : x.box.length ≤ maxLen) (hd : x.dest.length ≤ maxLen) (hh : x.hash.length ≤ maxLen) :
    Calls Try.prog 29 #[.agg (x.cells vu vf)] w fun e w' => e = .returned (.bool (mayRq x)) ∧ Below w.heap.size w w' := by
  by_cases p0 : 0 ≤ x.op
  rotate_left
  · exact refMay_no0 x vu vf w D hu hf hul hfl hm hb hd hh  p0
  by_cases p1 : x.op ≤ 10
  rotate_left
  · exact refMay_no1 x vu vf w D hu hf hul hfl hm hb hd hh p0 p1
  by_cases p2 : 0 ≤ x.node
  rotate_left
  · exact refMay_no2 x vu vf w D hu hf hul hfl hm hb hd hh p0 p1 p2
  by_cases p3 : x.node ≤ 5
  rotate_left
  · exact refMay_no3 x vu vf w D hu hf hul hfl hm hb hd hh p0 p1 p2 p3
  by_cases p4 : x.box.length ≤ 64
  rotate_left
  · exact refMay_no4 x vu vf w D hu hf hul hfl hm hb hd hh p0 p1 p2 p3 p4
  by_cases p5 : x.dest.length ≤ 64
  rotate_left
  · exact refMay_no5 x vu vf w D hu hf hul hfl hm hb hd hh p0 p1 p2 p3 p4 p5
  by_cases p6 : x.uids.length ≤ 64
  rotate_left
  · exact refMay_no6 x vu vf w D hu hf hul hfl hm hb hd hh p0 p1 p2 p3 p4 p5 p6
  by_cases p7 : x.flags.length ≤ 16
  rotate_left
  · exact refMay_no7 x vu vf w D hu hf hul hfl hm hb hd hh p0 p1 p2 p3 p4 p5 p6 p7
  by_cases p8 : 0 ≤ x.how
  rotate_left
  · exact refMay_no8 x vu vf w D hu hf hul hfl hm hb hd hh p0 p1 p2 p3 p4 p5 p6 p7 p8
  by_cases p9 : x.how ≤ 2
  rotate_left
  · exact refMay_no9 x vu vf w D hu hf hul hfl hm hb hd hh p0 p1 p2 p3 p4 p5 p6 p7 p8 p9
  by_cases p10 : x.hash.length ≤ 32
  rotate_left
  · exact refMay_no10 x vu vf w D hu hf hul hfl hm hb hd hh p0 p1 p2 p3 p4 p5 p6 p7 p8 p9 p10
  exact refMay_yes x vu vf w D hu hf hul hfl hm hb hd hh p0 p1 p2 p3 p4 p5 p6 p7 p8 p9 p10
end Go.Proofs.Ytgkapgfpalbkjaa
