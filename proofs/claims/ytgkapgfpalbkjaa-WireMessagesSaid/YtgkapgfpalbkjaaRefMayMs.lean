/-
  The walk of the reference's MayMessage.
-/
import Derived.Test.YtgkapgfpalbkjaaWWriteMs
import Derived.Test.YtgkapgfpalbkjaaRefMay
namespace Go.Proofs.Ytgkapgfpalbkjaa
open Go.RowKit
set_option linter.unusedVariables false
set_option linter.unusedSimpArgs false
theorem mayMs_of {x : Ms} (h1 : 1 ≤ x.kind ∧ x.kind ≤ 11) (h2 : 1 ≤ x.src ∧ x.src ≤ 5) (h3 : 1 ≤ x.dest ∧ x.dest ≤ 5) (h4 : x.entries.length ≤ 8) (h5 : ∀ e ∈ x.entries, 1 ≤ e.kind ∧ e.kind ≤ 3 ∧ e.data.length ≤ 2048) (h6 : x.conf.length ≤ 5) (h7 : ∀ n ∈ x.conf, 1 ≤ n ∧ n ≤ 5) (h8 : 0 ≤ x.offset ∧ x.offset ≤ 262144) (h9 : 0 ≤ x.size ∧ x.size ≤ 262144) (h10 : x.data.length ≤ 4096) : mayMs x = true := by
  unfold mayMs withinB
  simp only [Bool.and_eq_true, decide_eq_true_eq, Bool.not_eq_true', List.any_eq_false]
  refine ⟨h1, h2, h3, h4, fun e he => ?_, h6, fun n hn => ?_, h8, h9, h10⟩
  · have := h5 e he
    unfold entryP
    simp
    omega
  · have := h7 n hn
    unfold nodeP
    simp
    omega
set_option maxRecDepth 100000 in
set_option maxHeartbeats 2000000 in
theorem refMayMs_no0 (x : Ms) (vu vf : Value) (w : World) (D : List Nat) (hu : Cells D w vu x.entries.length (enVals x.entries)) (hf : Cells D w vf x.conf.length (intVals x.conf)) (hul : x.entries.length ≤ 1152921504606846976) (hfl : x.conf.length ≤ 1152921504606846976) (hm : ∀ e ∈ x.entries, e.data.length ≤ maxLen) (hd : x.data.length ≤ maxLen)  (n0 : ¬ 1 ≤ x.kind) :
    Calls Try.prog 54 #[.agg (x.cells vu vf)] w fun e w' => e = .returned (.bool (mayMs x)) ∧ Below w.heap.size w w' := by
  have HN := hid (show mayMs x = false by
    cases h : mayMs x
    · rfl
    · have hp := mayMs_parts h
      exact absurd (by first | exact hp.1.1 | exact hp.1.2 | exact hp.2.1.1 | exact hp.2.1.2 | exact hp.2.2.1.1 | exact hp.2.2.1.2 | exact hp.2.2.2.1 | exact hp.2.2.2.2.2.1 | exact hp.2.2.2.2.2.2.2.1.1 | exact hp.2.2.2.2.2.2.2.1.2 | exact hp.2.2.2.2.2.2.2.2.1.1 | exact hp.2.2.2.2.2.2.2.2.1.2 | exact hp.2.2.2.2.2.2.2.2.2) n0)
  have n0' := (by omega : x.kind < 1)
  have z1 : (str x.data).size = x.data.length := str_size _
  unfold maxLen at hd
  obtain ⟨au, cu, rfl⟩ := hu.form
  obtain ⟨af, cf, rfl⟩ := hf.form
  clear hu hf n0
  unfold Ms.cells
  go_enter Try.func54, Try.ntmps54
  go_wp2_with fail
  go_ret
  rw [HN.out]
  exact ⟨rfl, (Below.refl _ _).alloc (Nat.le_refl _) _⟩
set_option maxRecDepth 100000 in
set_option maxHeartbeats 2000000 in
theorem refMayMs_no1 (x : Ms) (vu vf : Value) (w : World) (D : List Nat) (hu : Cells D w vu x.entries.length (enVals x.entries)) (hf : Cells D w vf x.conf.length (intVals x.conf)) (hul : x.entries.length ≤ 1152921504606846976) (hfl : x.conf.length ≤ 1152921504606846976) (hm : ∀ e ∈ x.entries, e.data.length ≤ maxLen) (hd : x.data.length ≤ maxLen) (p0 : 1 ≤ x.kind) (n1 : ¬ x.kind ≤ 11) :
    Calls Try.prog 54 #[.agg (x.cells vu vf)] w fun e w' => e = .returned (.bool (mayMs x)) ∧ Below w.heap.size w w' := by
  have HN := hid (show mayMs x = false by
    cases h : mayMs x
    · rfl
    · have hp := mayMs_parts h
      exact absurd (by first | exact hp.1.1 | exact hp.1.2 | exact hp.2.1.1 | exact hp.2.1.2 | exact hp.2.2.1.1 | exact hp.2.2.1.2 | exact hp.2.2.2.1 | exact hp.2.2.2.2.2.1 | exact hp.2.2.2.2.2.2.2.1.1 | exact hp.2.2.2.2.2.2.2.1.2 | exact hp.2.2.2.2.2.2.2.2.1.1 | exact hp.2.2.2.2.2.2.2.2.1.2 | exact hp.2.2.2.2.2.2.2.2.2) n1)
  have n1' := (by omega : x.kind > 11)
  have z1 : (str x.data).size = x.data.length := str_size _
  unfold maxLen at hd
  obtain ⟨au, cu, rfl⟩ := hu.form
  obtain ⟨af, cf, rfl⟩ := hf.form
  clear hu hf n1
  unfold Ms.cells
  go_enter Try.func54, Try.ntmps54
  go_wp2_with fail
  go_ret
  rw [HN.out]
  exact ⟨rfl, (Below.refl _ _).alloc (Nat.le_refl _) _⟩
set_option maxRecDepth 100000 in
set_option maxHeartbeats 2000000 in
theorem refMayMs_no2 (x : Ms) (vu vf : Value) (w : World) (D : List Nat) (hu : Cells D w vu x.entries.length (enVals x.entries)) (hf : Cells D w vf x.conf.length (intVals x.conf)) (hul : x.entries.length ≤ 1152921504606846976) (hfl : x.conf.length ≤ 1152921504606846976) (hm : ∀ e ∈ x.entries, e.data.length ≤ maxLen) (hd : x.data.length ≤ maxLen) (p0 : 1 ≤ x.kind) (p1 : x.kind ≤ 11) (n2 : ¬ 1 ≤ x.src) :
    Calls Try.prog 54 #[.agg (x.cells vu vf)] w fun e w' => e = .returned (.bool (mayMs x)) ∧ Below w.heap.size w w' := by
  have HN := hid (show mayMs x = false by
    cases h : mayMs x
    · rfl
    · have hp := mayMs_parts h
      exact absurd (by first | exact hp.1.1 | exact hp.1.2 | exact hp.2.1.1 | exact hp.2.1.2 | exact hp.2.2.1.1 | exact hp.2.2.1.2 | exact hp.2.2.2.1 | exact hp.2.2.2.2.2.1 | exact hp.2.2.2.2.2.2.2.1.1 | exact hp.2.2.2.2.2.2.2.1.2 | exact hp.2.2.2.2.2.2.2.2.1.1 | exact hp.2.2.2.2.2.2.2.2.1.2 | exact hp.2.2.2.2.2.2.2.2.2) n2)
  have n2' := (by omega : x.src < 1)
  have z1 : (str x.data).size = x.data.length := str_size _
  unfold maxLen at hd
  obtain ⟨au, cu, rfl⟩ := hu.form
  obtain ⟨af, cf, rfl⟩ := hf.form
  clear hu hf n2
  unfold Ms.cells
  go_enter Try.func54, Try.ntmps54
  go_wp2_with fail
  go_ret
  rw [HN.out]
  exact ⟨rfl, (Below.refl _ _).alloc (Nat.le_refl _) _⟩
set_option maxRecDepth 100000 in
set_option maxHeartbeats 2000000 in
theorem refMayMs_no3 (x : Ms) (vu vf : Value) (w : World) (D : List Nat) (hu : Cells D w vu x.entries.length (enVals x.entries)) (hf : Cells D w vf x.conf.length (intVals x.conf)) (hul : x.entries.length ≤ 1152921504606846976) (hfl : x.conf.length ≤ 1152921504606846976) (hm : ∀ e ∈ x.entries, e.data.length ≤ maxLen) (hd : x.data.length ≤ maxLen) (p0 : 1 ≤ x.kind) (p1 : x.kind ≤ 11) (p2 : 1 ≤ x.src) (n3 : ¬ x.src ≤ 5) :
    Calls Try.prog 54 #[.agg (x.cells vu vf)] w fun e w' => e = .returned (.bool (mayMs x)) ∧ Below w.heap.size w w' := by
  have HN := hid (show mayMs x = false by
    cases h : mayMs x
    · rfl
    · have hp := mayMs_parts h
      exact absurd (by first | exact hp.1.1 | exact hp.1.2 | exact hp.2.1.1 | exact hp.2.1.2 | exact hp.2.2.1.1 | exact hp.2.2.1.2 | exact hp.2.2.2.1 | exact hp.2.2.2.2.2.1 | exact hp.2.2.2.2.2.2.2.1.1 | exact hp.2.2.2.2.2.2.2.1.2 | exact hp.2.2.2.2.2.2.2.2.1.1 | exact hp.2.2.2.2.2.2.2.2.1.2 | exact hp.2.2.2.2.2.2.2.2.2) n3)
  have n3' := (by omega : x.src > 5)
  have z1 : (str x.data).size = x.data.length := str_size _
  unfold maxLen at hd
  obtain ⟨au, cu, rfl⟩ := hu.form
  obtain ⟨af, cf, rfl⟩ := hf.form
  clear hu hf n3
  unfold Ms.cells
  go_enter Try.func54, Try.ntmps54
  go_wp2_with fail
  go_ret
  rw [HN.out]
  exact ⟨rfl, (Below.refl _ _).alloc (Nat.le_refl _) _⟩
set_option maxRecDepth 100000 in
set_option maxHeartbeats 2000000 in
theorem refMayMs_no4 (x : Ms) (vu vf : Value) (w : World) (D : List Nat) (hu : Cells D w vu x.entries.length (enVals x.entries)) (hf : Cells D w vf x.conf.length (intVals x.conf)) (hul : x.entries.length ≤ 1152921504606846976) (hfl : x.conf.length ≤ 1152921504606846976) (hm : ∀ e ∈ x.entries, e.data.length ≤ maxLen) (hd : x.data.length ≤ maxLen) (p0 : 1 ≤ x.kind) (p1 : x.kind ≤ 11) (p2 : 1 ≤ x.src) (p3 : x.src ≤ 5) (n4 : ¬ 1 ≤ x.dest) :
    Calls Try.prog 54 #[.agg (x.cells vu vf)] w fun e w' => e = .returned (.bool (mayMs x)) ∧ Below w.heap.size w w' := by
  have HN := hid (show mayMs x = false by
    cases h : mayMs x
    · rfl
    · have hp := mayMs_parts h
      exact absurd (by first | exact hp.1.1 | exact hp.1.2 | exact hp.2.1.1 | exact hp.2.1.2 | exact hp.2.2.1.1 | exact hp.2.2.1.2 | exact hp.2.2.2.1 | exact hp.2.2.2.2.2.1 | exact hp.2.2.2.2.2.2.2.1.1 | exact hp.2.2.2.2.2.2.2.1.2 | exact hp.2.2.2.2.2.2.2.2.1.1 | exact hp.2.2.2.2.2.2.2.2.1.2 | exact hp.2.2.2.2.2.2.2.2.2) n4)
  have n4' := (by omega : x.dest < 1)
  have z1 : (str x.data).size = x.data.length := str_size _
  unfold maxLen at hd
  obtain ⟨au, cu, rfl⟩ := hu.form
  obtain ⟨af, cf, rfl⟩ := hf.form
  clear hu hf n4
  unfold Ms.cells
  go_enter Try.func54, Try.ntmps54
  go_wp2_with fail
  go_ret
  rw [HN.out]
  exact ⟨rfl, (Below.refl _ _).alloc (Nat.le_refl _) _⟩
set_option maxRecDepth 100000 in
set_option maxHeartbeats 2000000 in
theorem refMayMs_no5 (x : Ms) (vu vf : Value) (w : World) (D : List Nat) (hu : Cells D w vu x.entries.length (enVals x.entries)) (hf : Cells D w vf x.conf.length (intVals x.conf)) (hul : x.entries.length ≤ 1152921504606846976) (hfl : x.conf.length ≤ 1152921504606846976) (hm : ∀ e ∈ x.entries, e.data.length ≤ maxLen) (hd : x.data.length ≤ maxLen) (p0 : 1 ≤ x.kind) (p1 : x.kind ≤ 11) (p2 : 1 ≤ x.src) (p3 : x.src ≤ 5) (p4 : 1 ≤ x.dest) (n5 : ¬ x.dest ≤ 5) :
    Calls Try.prog 54 #[.agg (x.cells vu vf)] w fun e w' => e = .returned (.bool (mayMs x)) ∧ Below w.heap.size w w' := by
  have HN := hid (show mayMs x = false by
    cases h : mayMs x
    · rfl
    · have hp := mayMs_parts h
      exact absurd (by first | exact hp.1.1 | exact hp.1.2 | exact hp.2.1.1 | exact hp.2.1.2 | exact hp.2.2.1.1 | exact hp.2.2.1.2 | exact hp.2.2.2.1 | exact hp.2.2.2.2.2.1 | exact hp.2.2.2.2.2.2.2.1.1 | exact hp.2.2.2.2.2.2.2.1.2 | exact hp.2.2.2.2.2.2.2.2.1.1 | exact hp.2.2.2.2.2.2.2.2.1.2 | exact hp.2.2.2.2.2.2.2.2.2) n5)
  have n5' := (by omega : x.dest > 5)
  have z1 : (str x.data).size = x.data.length := str_size _
  unfold maxLen at hd
  obtain ⟨au, cu, rfl⟩ := hu.form
  obtain ⟨af, cf, rfl⟩ := hf.form
  clear hu hf n5
  unfold Ms.cells
  go_enter Try.func54, Try.ntmps54
  go_wp2_with fail
  go_ret
  rw [HN.out]
  exact ⟨rfl, (Below.refl _ _).alloc (Nat.le_refl _) _⟩
set_option maxRecDepth 100000 in
set_option maxHeartbeats 2000000 in
theorem refMayMs_no6 (x : Ms) (vu vf : Value) (w : World) (D : List Nat) (hu : Cells D w vu x.entries.length (enVals x.entries)) (hf : Cells D w vf x.conf.length (intVals x.conf)) (hul : x.entries.length ≤ 1152921504606846976) (hfl : x.conf.length ≤ 1152921504606846976) (hm : ∀ e ∈ x.entries, e.data.length ≤ maxLen) (hd : x.data.length ≤ maxLen) (p0 : 1 ≤ x.kind) (p1 : x.kind ≤ 11) (p2 : 1 ≤ x.src) (p3 : x.src ≤ 5) (p4 : 1 ≤ x.dest) (p5 : x.dest ≤ 5) (n6 : ¬ x.entries.length ≤ 8) :
    Calls Try.prog 54 #[.agg (x.cells vu vf)] w fun e w' => e = .returned (.bool (mayMs x)) ∧ Below w.heap.size w w' := by
  have HN := hid (show mayMs x = false by
    cases h : mayMs x
    · rfl
    · have hp := mayMs_parts h
      exact absurd (by first | exact hp.1.1 | exact hp.1.2 | exact hp.2.1.1 | exact hp.2.1.2 | exact hp.2.2.1.1 | exact hp.2.2.1.2 | exact hp.2.2.2.1 | exact hp.2.2.2.2.2.1 | exact hp.2.2.2.2.2.2.2.1.1 | exact hp.2.2.2.2.2.2.2.1.2 | exact hp.2.2.2.2.2.2.2.2.1.1 | exact hp.2.2.2.2.2.2.2.2.1.2 | exact hp.2.2.2.2.2.2.2.2.2) n6)
  have n6' := (by omega : x.entries.length > 8)
  have z1 : (str x.data).size = x.data.length := str_size _
  unfold maxLen at hd
  obtain ⟨au, cu, rfl⟩ := hu.form
  obtain ⟨af, cf, rfl⟩ := hf.form
  clear hu hf n6
  unfold Ms.cells
  go_enter Try.func54, Try.ntmps54
  go_wp2_with fail
  go_ret
  rw [HN.out]
  exact ⟨rfl, (Below.refl _ _).alloc (Nat.le_refl _) _⟩
set_option maxRecDepth 100000 in
set_option maxHeartbeats 2000000 in
theorem refMayMs_no7 (x : Ms) (vu vf : Value) (w : World) (D : List Nat) (hu : Cells D w vu x.entries.length (enVals x.entries)) (hf : Cells D w vf x.conf.length (intVals x.conf)) (hul : x.entries.length ≤ 1152921504606846976) (hfl : x.conf.length ≤ 1152921504606846976) (hm : ∀ e ∈ x.entries, e.data.length ≤ maxLen) (hd : x.data.length ≤ maxLen) (p0 : 1 ≤ x.kind) (p1 : x.kind ≤ 11) (p2 : 1 ≤ x.src) (p3 : x.src ≤ 5) (p4 : 1 ≤ x.dest) (p5 : x.dest ≤ 5) (p6 : x.entries.length ≤ 8) (n7 : ¬ x.conf.length ≤ 5) :
    Calls Try.prog 54 #[.agg (x.cells vu vf)] w fun e w' => e = .returned (.bool (mayMs x)) ∧ Below w.heap.size w w' := by
  have HN := hid (show mayMs x = false by
    cases h : mayMs x
    · rfl
    · have hp := mayMs_parts h
      exact absurd (by first | exact hp.1.1 | exact hp.1.2 | exact hp.2.1.1 | exact hp.2.1.2 | exact hp.2.2.1.1 | exact hp.2.2.1.2 | exact hp.2.2.2.1 | exact hp.2.2.2.2.2.1 | exact hp.2.2.2.2.2.2.2.1.1 | exact hp.2.2.2.2.2.2.2.1.2 | exact hp.2.2.2.2.2.2.2.2.1.1 | exact hp.2.2.2.2.2.2.2.2.1.2 | exact hp.2.2.2.2.2.2.2.2.2) n7)
  have n7' := (by omega : x.conf.length > 5)
  have z1 : (str x.data).size = x.data.length := str_size _
  unfold maxLen at hd
  obtain ⟨au, cu, rfl⟩ := hu.form
  obtain ⟨af, cf, rfl⟩ := hf.form
  clear hu hf n7
  unfold Ms.cells
  go_enter Try.func54, Try.ntmps54
  go_wp2_with fail
  go_ret
  rw [HN.out]
  exact ⟨rfl, (Below.refl _ _).alloc (Nat.le_refl _) _⟩
set_option maxRecDepth 100000 in
set_option maxHeartbeats 2000000 in
theorem refMayMs_no8 (x : Ms) (vu vf : Value) (w : World) (D : List Nat) (hu : Cells D w vu x.entries.length (enVals x.entries)) (hf : Cells D w vf x.conf.length (intVals x.conf)) (hul : x.entries.length ≤ 1152921504606846976) (hfl : x.conf.length ≤ 1152921504606846976) (hm : ∀ e ∈ x.entries, e.data.length ≤ maxLen) (hd : x.data.length ≤ maxLen) (p0 : 1 ≤ x.kind) (p1 : x.kind ≤ 11) (p2 : 1 ≤ x.src) (p3 : x.src ≤ 5) (p4 : 1 ≤ x.dest) (p5 : x.dest ≤ 5) (p6 : x.entries.length ≤ 8) (p7 : x.conf.length ≤ 5) (n8 : ¬ 0 ≤ x.offset) :
    Calls Try.prog 54 #[.agg (x.cells vu vf)] w fun e w' => e = .returned (.bool (mayMs x)) ∧ Below w.heap.size w w' := by
  have HN := hid (show mayMs x = false by
    cases h : mayMs x
    · rfl
    · have hp := mayMs_parts h
      exact absurd (by first | exact hp.1.1 | exact hp.1.2 | exact hp.2.1.1 | exact hp.2.1.2 | exact hp.2.2.1.1 | exact hp.2.2.1.2 | exact hp.2.2.2.1 | exact hp.2.2.2.2.2.1 | exact hp.2.2.2.2.2.2.2.1.1 | exact hp.2.2.2.2.2.2.2.1.2 | exact hp.2.2.2.2.2.2.2.2.1.1 | exact hp.2.2.2.2.2.2.2.2.1.2 | exact hp.2.2.2.2.2.2.2.2.2) n8)
  have n8' := (by omega : x.offset < 0)
  have z1 : (str x.data).size = x.data.length := str_size _
  unfold maxLen at hd
  obtain ⟨au, cu, rfl⟩ := hu.form
  obtain ⟨af, cf, rfl⟩ := hf.form
  clear hu hf n8
  unfold Ms.cells
  go_enter Try.func54, Try.ntmps54
  go_wp2_with fail
  go_ret
  rw [HN.out]
  exact ⟨rfl, (Below.refl _ _).alloc (Nat.le_refl _) _⟩
set_option maxRecDepth 100000 in
set_option maxHeartbeats 2000000 in
theorem refMayMs_no9 (x : Ms) (vu vf : Value) (w : World) (D : List Nat) (hu : Cells D w vu x.entries.length (enVals x.entries)) (hf : Cells D w vf x.conf.length (intVals x.conf)) (hul : x.entries.length ≤ 1152921504606846976) (hfl : x.conf.length ≤ 1152921504606846976) (hm : ∀ e ∈ x.entries, e.data.length ≤ maxLen) (hd : x.data.length ≤ maxLen) (p0 : 1 ≤ x.kind) (p1 : x.kind ≤ 11) (p2 : 1 ≤ x.src) (p3 : x.src ≤ 5) (p4 : 1 ≤ x.dest) (p5 : x.dest ≤ 5) (p6 : x.entries.length ≤ 8) (p7 : x.conf.length ≤ 5) (p8 : 0 ≤ x.offset) (n9 : ¬ x.offset ≤ 262144) :
    Calls Try.prog 54 #[.agg (x.cells vu vf)] w fun e w' => e = .returned (.bool (mayMs x)) ∧ Below w.heap.size w w' := by
  have HN := hid (show mayMs x = false by
    cases h : mayMs x
    · rfl
    · have hp := mayMs_parts h
      exact absurd (by first | exact hp.1.1 | exact hp.1.2 | exact hp.2.1.1 | exact hp.2.1.2 | exact hp.2.2.1.1 | exact hp.2.2.1.2 | exact hp.2.2.2.1 | exact hp.2.2.2.2.2.1 | exact hp.2.2.2.2.2.2.2.1.1 | exact hp.2.2.2.2.2.2.2.1.2 | exact hp.2.2.2.2.2.2.2.2.1.1 | exact hp.2.2.2.2.2.2.2.2.1.2 | exact hp.2.2.2.2.2.2.2.2.2) n9)
  have n9' := (by omega : x.offset > 262144)
  have z1 : (str x.data).size = x.data.length := str_size _
  unfold maxLen at hd
  obtain ⟨au, cu, rfl⟩ := hu.form
  obtain ⟨af, cf, rfl⟩ := hf.form
  clear hu hf n9
  unfold Ms.cells
  go_enter Try.func54, Try.ntmps54
  go_wp2_with fail
  go_ret
  rw [HN.out]
  exact ⟨rfl, (Below.refl _ _).alloc (Nat.le_refl _) _⟩
set_option maxRecDepth 100000 in
set_option maxHeartbeats 2000000 in
theorem refMayMs_no10 (x : Ms) (vu vf : Value) (w : World) (D : List Nat) (hu : Cells D w vu x.entries.length (enVals x.entries)) (hf : Cells D w vf x.conf.length (intVals x.conf)) (hul : x.entries.length ≤ 1152921504606846976) (hfl : x.conf.length ≤ 1152921504606846976) (hm : ∀ e ∈ x.entries, e.data.length ≤ maxLen) (hd : x.data.length ≤ maxLen) (p0 : 1 ≤ x.kind) (p1 : x.kind ≤ 11) (p2 : 1 ≤ x.src) (p3 : x.src ≤ 5) (p4 : 1 ≤ x.dest) (p5 : x.dest ≤ 5) (p6 : x.entries.length ≤ 8) (p7 : x.conf.length ≤ 5) (p8 : 0 ≤ x.offset) (p9 : x.offset ≤ 262144) (n10 : ¬ 0 ≤ x.size) :
    Calls Try.prog 54 #[.agg (x.cells vu vf)] w fun e w' => e = .returned (.bool (mayMs x)) ∧ Below w.heap.size w w' := by
  have HN := hid (show mayMs x = false by
    cases h : mayMs x
    · rfl
    · have hp := mayMs_parts h
      exact absurd (by first | exact hp.1.1 | exact hp.1.2 | exact hp.2.1.1 | exact hp.2.1.2 | exact hp.2.2.1.1 | exact hp.2.2.1.2 | exact hp.2.2.2.1 | exact hp.2.2.2.2.2.1 | exact hp.2.2.2.2.2.2.2.1.1 | exact hp.2.2.2.2.2.2.2.1.2 | exact hp.2.2.2.2.2.2.2.2.1.1 | exact hp.2.2.2.2.2.2.2.2.1.2 | exact hp.2.2.2.2.2.2.2.2.2) n10)
  have n10' := (by omega : x.size < 0)
  have z1 : (str x.data).size = x.data.length := str_size _
  unfold maxLen at hd
  obtain ⟨au, cu, rfl⟩ := hu.form
  obtain ⟨af, cf, rfl⟩ := hf.form
  clear hu hf n10
  unfold Ms.cells
  go_enter Try.func54, Try.ntmps54
  go_wp2_with fail
  go_ret
  rw [HN.out]
  exact ⟨rfl, (Below.refl _ _).alloc (Nat.le_refl _) _⟩
set_option maxRecDepth 100000 in
set_option maxHeartbeats 2000000 in
theorem refMayMs_no11 (x : Ms) (vu vf : Value) (w : World) (D : List Nat) (hu : Cells D w vu x.entries.length (enVals x.entries)) (hf : Cells D w vf x.conf.length (intVals x.conf)) (hul : x.entries.length ≤ 1152921504606846976) (hfl : x.conf.length ≤ 1152921504606846976) (hm : ∀ e ∈ x.entries, e.data.length ≤ maxLen) (hd : x.data.length ≤ maxLen) (p0 : 1 ≤ x.kind) (p1 : x.kind ≤ 11) (p2 : 1 ≤ x.src) (p3 : x.src ≤ 5) (p4 : 1 ≤ x.dest) (p5 : x.dest ≤ 5) (p6 : x.entries.length ≤ 8) (p7 : x.conf.length ≤ 5) (p8 : 0 ≤ x.offset) (p9 : x.offset ≤ 262144) (p10 : 0 ≤ x.size) (n11 : ¬ x.size ≤ 262144) :
    Calls Try.prog 54 #[.agg (x.cells vu vf)] w fun e w' => e = .returned (.bool (mayMs x)) ∧ Below w.heap.size w w' := by
  have HN := hid (show mayMs x = false by
    cases h : mayMs x
    · rfl
    · have hp := mayMs_parts h
      exact absurd (by first | exact hp.1.1 | exact hp.1.2 | exact hp.2.1.1 | exact hp.2.1.2 | exact hp.2.2.1.1 | exact hp.2.2.1.2 | exact hp.2.2.2.1 | exact hp.2.2.2.2.2.1 | exact hp.2.2.2.2.2.2.2.1.1 | exact hp.2.2.2.2.2.2.2.1.2 | exact hp.2.2.2.2.2.2.2.2.1.1 | exact hp.2.2.2.2.2.2.2.2.1.2 | exact hp.2.2.2.2.2.2.2.2.2) n11)
  have n11' := (by omega : x.size > 262144)
  have z1 : (str x.data).size = x.data.length := str_size _
  unfold maxLen at hd
  obtain ⟨au, cu, rfl⟩ := hu.form
  obtain ⟨af, cf, rfl⟩ := hf.form
  clear hu hf n11
  unfold Ms.cells
  go_enter Try.func54, Try.ntmps54
  go_wp2_with fail
  go_ret
  rw [HN.out]
  exact ⟨rfl, (Below.refl _ _).alloc (Nat.le_refl _) _⟩
set_option maxRecDepth 100000 in
set_option maxHeartbeats 2000000 in
theorem refMayMs_no12 (x : Ms) (vu vf : Value) (w : World) (D : List Nat) (hu : Cells D w vu x.entries.length (enVals x.entries)) (hf : Cells D w vf x.conf.length (intVals x.conf)) (hul : x.entries.length ≤ 1152921504606846976) (hfl : x.conf.length ≤ 1152921504606846976) (hm : ∀ e ∈ x.entries, e.data.length ≤ maxLen) (hd : x.data.length ≤ maxLen) (p0 : 1 ≤ x.kind) (p1 : x.kind ≤ 11) (p2 : 1 ≤ x.src) (p3 : x.src ≤ 5) (p4 : 1 ≤ x.dest) (p5 : x.dest ≤ 5) (p6 : x.entries.length ≤ 8) (p7 : x.conf.length ≤ 5) (p8 : 0 ≤ x.offset) (p9 : x.offset ≤ 262144) (p10 : 0 ≤ x.size) (p11 : x.size ≤ 262144) (n12 : ¬ x.data.length ≤ 4096) :
    Calls Try.prog 54 #[.agg (x.cells vu vf)] w fun e w' => e = .returned (.bool (mayMs x)) ∧ Below w.heap.size w w' := by
  have HN := hid (show mayMs x = false by
    cases h : mayMs x
    · rfl
    · have hp := mayMs_parts h
      exact absurd (by first | exact hp.1.1 | exact hp.1.2 | exact hp.2.1.1 | exact hp.2.1.2 | exact hp.2.2.1.1 | exact hp.2.2.1.2 | exact hp.2.2.2.1 | exact hp.2.2.2.2.2.1 | exact hp.2.2.2.2.2.2.2.1.1 | exact hp.2.2.2.2.2.2.2.1.2 | exact hp.2.2.2.2.2.2.2.2.1.1 | exact hp.2.2.2.2.2.2.2.2.1.2 | exact hp.2.2.2.2.2.2.2.2.2) n12)
  have n12' := (by omega : x.data.length > 4096)
  have z1 : (str x.data).size = x.data.length := str_size _
  unfold maxLen at hd
  obtain ⟨au, cu, rfl⟩ := hu.form
  obtain ⟨af, cf, rfl⟩ := hf.form
  clear hu hf n12
  unfold Ms.cells
  go_enter Try.func54, Try.ntmps54
  go_wp2_with fail
  go_ret
  rw [HN.out]
  exact ⟨rfl, (Below.refl _ _).alloc (Nat.le_refl _) _⟩
set_option maxRecDepth 100000 in
set_option maxHeartbeats 4000000 in
theorem refMayMs_yes (x : Ms) (vu vf : Value) (w : World) (D : List Nat) (hu : Cells D w vu x.entries.length (enVals x.entries)) (hf : Cells D w vf x.conf.length (intVals x.conf)) (hul : x.entries.length ≤ 1152921504606846976) (hfl : x.conf.length ≤ 1152921504606846976) (hm : ∀ e ∈ x.entries, e.data.length ≤ maxLen) (hd : x.data.length ≤ maxLen) (p0 : 1 ≤ x.kind) (p1 : x.kind ≤ 11) (p2 : 1 ≤ x.src) (p3 : x.src ≤ 5) (p4 : 1 ≤ x.dest) (p5 : x.dest ≤ 5) (p6 : x.entries.length ≤ 8) (p7 : x.conf.length ≤ 5) (p8 : 0 ≤ x.offset) (p9 : x.offset ≤ 262144) (p10 : 0 ≤ x.size) (p11 : x.size ≤ 262144) (p12 : x.data.length ≤ 4096) :
    Calls Try.prog 54 #[.agg (x.cells vu vf)] w fun e w' => e = .returned (.bool (mayMs x)) ∧ Below w.heap.size w w' := by
  have z1 : (str x.data).size = x.data.length := str_size _
  unfold maxLen at hd
  obtain ⟨au, cu, rfl⟩ := hu.form
  obtain ⟨af, cf, rfl⟩ := hf.form
  obtain ⟨_, hcf, hcell⟩ := (hf.kept (w' := w.alloc (.cells (x.cells (.slice au x.entries.length cu) (.slice af x.conf.length cf)) 32)) (fun j hj _ => heap_alloc_old _ _ hj)).at
  obtain ⟨_, hcu, hcellu⟩ := (hu.kept (w' := w.alloc (.cells (x.cells (.slice au x.entries.length cu) (.slice af x.conf.length cf)) 32)) (fun j hj _ => heap_alloc_old _ _ hj)).at
  have HX := hid hcell
  have HXU := hid hcellu
  have HM := hid hm
  have HP := hid (fun h6 h8 => mayMs_of (x := x) ⟨p0, p1⟩ ⟨p2, p3⟩ ⟨p4, p5⟩ p6 h6 p7 h8 ⟨p8, p9⟩ ⟨p10, p11⟩ p12)
  have HQ := hid (fun (h : mayMs x = true) => mayMs_parts h)
  have HB : Hid (Below w.heap.size w (w.alloc (.cells (x.cells (.slice au x.entries.length cu) (.slice af x.conf.length cf)) 32))) := (Below.refl _ _).alloc (Nat.le_refl _) _
  have HK := hid (heap_alloc_new w (.cells (x.cells (.slice au x.entries.length cu) (.slice af x.conf.length cf)) 32))
  clear hcell hcellu hm hu hf
  unfold Ms.cells at *
  go_enter Try.func54, Try.ntmps54
  go_wp2_with fail
  generalize w.alloc (.cells #[.int .i64 x.kind, .int .i64 x.src, .int .i64 x.dest, .int .u64 x.term, .int .u64 x.index, .int .u64 x.logTerm, .int .u64 x.commit, .bool x.ok, .slice au x.entries.length cu, .slice af x.conf.length cf, .int .i64 x.offset, .int .i64 x.size, .string (str x.data)] 32) = W at *
  generalize hke : w.heap.size = k at HK ⊢
  clear hke
  have c9 : W.cell? ⟨k, 9, none⟩ = some (.slice af x.conf.length cf) := cell_in HK.out 9 _ rfl
  have c8 : W.cell? ⟨k, 8, none⟩ = some (.slice au x.entries.length cu) := cell_in HK.out 8 _ rfl
  go_loop [3] (fun i => ∃ j : Nat, i = .int .i64 j ∧ j ≤ x.entries.length ∧ Hid (∀ e ∈ x.entries.take j, 1 ≤ e.kind ∧ e.kind ≤ 3 ∧ e.data.length ≤ 2048)) (fun i => x.entries.length - (intOf i).toNat)
  case atStart => exact ⟨0, rfl, Nat.zero_le _, (fun f hf => by simp at hf)⟩
  case round =>
    obtain ⟨j, rfl, hj, HT⟩ := hrel
    by_cases hlt : j < x.entries.length
    · obtain ⟨b, off, rfl, hcell⟩ := HXU.out (by rw [enVals_len]; omega)
      have hx := hcell W (Below.refl _ _) _ _ (enVals_at x.entries j hlt).2.1
      have hy := hcell W (Below.refl _ _) _ _ (enVals_at x.entries j hlt).2.2
      rw [show off + (j * 3 + 1) = off + j * 3 + 1 by omega] at hx
      rw [show off + (j * 3 + 2) = off + j * 3 + 2 by omega] at hy
      have hel := HM.out _ (List.getElem_mem hlt)
      unfold maxLen at hel
      have HS := hid (fun h => take_all HT.out hlt h)
      have HI := hid (fun (h : ¬ (1 ≤ x.entries[j].kind ∧ x.entries[j].kind ≤ 3 ∧ x.entries[j].data.length ≤ 2048)) => show mayMs x = false by
        cases hy : mayMs x
        · rfl
        · exact absurd ((HQ.out hy).2.2.2.2.1 _ (List.getElem_mem hlt)) h)
      have hzs : (str x.entries[j].data).size = x.entries[j].data.length := str_size _
      clear hcell
      generalize x.entries[j] = e at *
      obtain ⟨et, ek, ed⟩ := e
      simp only at HS HI hx hy hzs hel
      by_cases h1 : 1 ≤ ek
      · by_cases h2 : ek ≤ 3
        · by_cases h3 : ed.length ≤ 2048
          · have HS' := hid (HS.out ⟨h1, h2, h3⟩)
            clear HS HI
            go_wp2_with fail
            go_round
            case rel => exact ⟨j + 1, by go_num, by omega, HS'.out⟩
            case measure => simp [intOf]; omega
          · have HI' := hid (HI.out (fun h => h3 h.2.2))
            clear HS HI
            go_wp2_with fail
            go_ret
            rw [HI'.out]
            exact ⟨rfl, HB.out⟩
        · have HI' := hid (HI.out (fun h => h2 h.2.1))
          have h2' : ek > 3 := by omega
          clear HS HI
          go_wp2_with fail
          go_ret
          rw [HI'.out]
          exact ⟨rfl, HB.out⟩
      · have HI' := hid (HI.out (fun h => h1 h.1))
        have h1' : ek < 1 := by omega
        clear HS HI
        go_wp2_with fail
        go_ret
        rw [HI'.out]
        exact ⟨rfl, HB.out⟩
    · have HF8 : Hid (∀ e ∈ x.entries, 1 ≤ e.kind ∧ e.kind ≤ 3 ∧ e.data.length ≤ 2048) := by
        have h := HT.out
        rw [List.take_of_length_le (by omega)] at h
        exact h
      go_wp2_with fail
      go_loop [4] (fun i => ∃ j : Nat, i = .int .i64 j ∧ j ≤ x.conf.length ∧ Hid (∀ n ∈ x.conf.take j, 1 ≤ n ∧ n ≤ 5)) (fun i => x.conf.length - (intOf i).toNat)
      case atStart => exact ⟨0, rfl, Nat.zero_le _, (fun f hf => by simp at hf)⟩
      case round =>
        obtain ⟨j2, rfl, hj2, HT2⟩ := hrel
        by_cases hlt2 : j2 < x.conf.length
        · obtain ⟨b, off, rfl, hcell⟩ := HX.out (by rw [intVals_len]; omega)
          have hx := hcell W (Below.refl _ _) _ _ (intVals_at x.conf j2 hlt2)
          have HS := hid (fun h => take_all HT2.out hlt2 h)
          have HI := hid (fun (h : ¬ (1 ≤ x.conf[j2] ∧ x.conf[j2] ≤ 5)) => show mayMs x = false by
            cases hy : mayMs x
            · rfl
            · exact absurd ((HQ.out hy).2.2.2.2.2.2.1 _ (List.getElem_mem hlt2)) h)
          clear hcell
          generalize x.conf[j2] = r at *
          by_cases h1 : 1 ≤ r
          · by_cases h2 : r ≤ 5
            · have HS' := hid (HS.out ⟨h1, h2⟩)
              clear HS HI
              go_wp2_with fail
              go_round
              case rel => exact ⟨j2 + 1, by go_num, by omega, HS'.out⟩
              case measure => simp [intOf]; omega
            · have HI' := hid (HI.out (fun h => h2 h.2))
              have h2' : r > 5 := by omega
              clear HS HI
              go_wp2_with fail
              go_ret
              rw [HI'.out]
              exact ⟨rfl, HB.out⟩
          · have HI' := hid (HI.out (fun h => h1 h.1))
            have h1' : r < 1 := by omega
            clear HS HI
            go_wp2_with fail
            go_ret
            rw [HI'.out]
            exact ⟨rfl, HB.out⟩
        · have HF6 : Hid (∀ n ∈ x.conf, 1 ≤ n ∧ n ≤ 5) := by
            have h := HT2.out
            rw [List.take_of_length_le (by omega)] at h
            exact h
          have HY := hid (HP.out HF8.out HF6.out)
          go_wp2_with fail
          go_ret
          rw [HY.out]
          exact ⟨rfl, HB.out⟩
theorem refMayMs_any (x : Ms) (vu vf : Value) (w : World) (D : List Nat) (hu : Cells D w vu x.entries.length (enVals x.entries)) (hf : Cells D w vf x.conf.length (intVals x.conf)) (hul : x.entries.length ≤ 1152921504606846976) (hfl : x.conf.length ≤ 1152921504606846976) (hm : ∀ e ∈ x.entries, e.data.length ≤ maxLen) (hd : x.data.length ≤ maxLen) :
    Calls Try.prog 54 #[.agg (x.cells vu vf)] w fun e w' => e = .returned (.bool (mayMs x)) ∧ Below w.heap.size w w' := by
  by_cases p0 : 1 ≤ x.kind
  rotate_left
  · exact refMayMs_no0 x vu vf w D hu hf hul hfl hm hd  p0
  by_cases p1 : x.kind ≤ 11
  rotate_left
  · exact refMayMs_no1 x vu vf w D hu hf hul hfl hm hd p0 p1
  by_cases p2 : 1 ≤ x.src
  rotate_left
  · exact refMayMs_no2 x vu vf w D hu hf hul hfl hm hd p0 p1 p2
  by_cases p3 : x.src ≤ 5
  rotate_left
  · exact refMayMs_no3 x vu vf w D hu hf hul hfl hm hd p0 p1 p2 p3
  by_cases p4 : 1 ≤ x.dest
  rotate_left
  · exact refMayMs_no4 x vu vf w D hu hf hul hfl hm hd p0 p1 p2 p3 p4
  by_cases p5 : x.dest ≤ 5
  rotate_left
  · exact refMayMs_no5 x vu vf w D hu hf hul hfl hm hd p0 p1 p2 p3 p4 p5
  by_cases p6 : x.entries.length ≤ 8
  rotate_left
  · exact refMayMs_no6 x vu vf w D hu hf hul hfl hm hd p0 p1 p2 p3 p4 p5 p6
  by_cases p7 : x.conf.length ≤ 5
  rotate_left
  · exact refMayMs_no7 x vu vf w D hu hf hul hfl hm hd p0 p1 p2 p3 p4 p5 p6 p7
  by_cases p8 : 0 ≤ x.offset
  rotate_left
  · exact refMayMs_no8 x vu vf w D hu hf hul hfl hm hd p0 p1 p2 p3 p4 p5 p6 p7 p8
  by_cases p9 : x.offset ≤ 262144
  rotate_left
  · exact refMayMs_no9 x vu vf w D hu hf hul hfl hm hd p0 p1 p2 p3 p4 p5 p6 p7 p8 p9
  by_cases p10 : 0 ≤ x.size
  rotate_left
  · exact refMayMs_no10 x vu vf w D hu hf hul hfl hm hd p0 p1 p2 p3 p4 p5 p6 p7 p8 p9 p10
  by_cases p11 : x.size ≤ 262144
  rotate_left
  · exact refMayMs_no11 x vu vf w D hu hf hul hfl hm hd p0 p1 p2 p3 p4 p5 p6 p7 p8 p9 p10 p11
  by_cases p12 : x.data.length ≤ 4096
  rotate_left
  · exact refMayMs_no12 x vu vf w D hu hf hul hfl hm hd p0 p1 p2 p3 p4 p5 p6 p7 p8 p9 p10 p11 p12
  exact refMayMs_yes x vu vf w D hu hf hul hfl hm hd p0 p1 p2 p3 p4 p5 p6 p7 p8 p9 p10 p11 p12
end Go.Proofs.Ytgkapgfpalbkjaa
