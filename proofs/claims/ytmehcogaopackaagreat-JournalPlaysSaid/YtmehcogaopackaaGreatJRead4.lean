/-
  The walk of the journal's entry record that is not right.
-/
import Derived.Test.YtmehcogaopackaaGreatJRead3
namespace Go.Proofs.YtmehcogaopackaaGreat
open Go.RowKit
set_option linter.unusedVariables false
set_option linter.unusedSimpArgs false
/-- an operation that its guard lets run and that yields in every world that meets S, taken first -/
theorem wpAnyH_takeY {P : Program} {ops : Array Oper} {Q : Exit → Act → World → Prop} {md : Region.Mode} {S : World → Prop} {i : Nat} {oi : Oper} {d : Tmp} {v : Value} {fuel : Nat} {listed : Array Bool} {a : Act} {w : World} (hi : ops[i]? = some oi) (hd : oi.dst = some d)
    (hs : Region.noSelect ops = true) (hf : Region.free md ops listed i = true) (hr : (Region.ready md ops listed).contains i = true)
    (hQ : ∀ c a u w, Q (.panic c) (a.put (some d) u) w → Q (.panic c) a w) (hw : Region.wanted oi (yielded ops a.tmps) = true) (hy : ∀ w, S w → (execOp a.eval oi).run P w = .ok (.value v) w) (hS : S w)
    (h : wpAnyH P md ops Q S fuel (listed.setIfInBounds i true) (a.put (some d) v) w) : wpAnyH P md ops Q S (fuel + 1) listed a w :=
  wpAnyH_take hi hs hf hr (fun c a w h => hQ c a v w (by rw [hd] at h; exact h)) (Or.inl ⟨hw, hy⟩) hS (by rw [hd]; exact h)
/-- an operation that its guard does not let run -/
theorem wpAnyH_takeN {P : Program} {ops : Array Oper} {Q : Exit → Act → World → Prop} {md : Region.Mode} {S : World → Prop} {i : Nat} {oi : Oper} {d : Tmp} {fuel : Nat} {listed : Array Bool} {a : Act} {w : World} (hi : ops[i]? = some oi) (hd : oi.dst = some d)
    (hs : Region.noSelect ops = true) (hf : Region.free md ops listed i = true) (hr : (Region.ready md ops listed).contains i = true)
    (hQ : ∀ c a u w, Q (.panic c) (a.put (some d) u) w → Q (.panic c) a w) (hw : Region.wanted oi (yielded ops a.tmps) = false) (hS : S w)
    (h : wpAnyH P md ops Q S fuel (listed.setIfInBounds i true) (a.put (some d) undef) w) : wpAnyH P md ops Q S (fuel + 1) listed a w :=
  wpAnyH_take hi hs hf hr (fun c a w h => hQ c a undef w (by rw [hd] at h; exact h)) (Or.inr ⟨hw, rfl⟩) hS (by rw [hd]; exact h)
set_option maxRecDepth 100000 in
set_option maxHeartbeats 4000000 in
theorem entry_bad {s : Bytes} {b k : Nat} {w : World} {st st1 st2 st3 st4 : Nat × Nat} {i t kd base n : Nat} {d : Bytes} (hs : s.length ≤ 1152921504606846976) (E0 : Hid (pNum s st = (i, st1))) (E1 : Hid (pNum s st1 = (t, st2)))
    (E2 : Hid (pCount 3 s st2 = (kd, st3))) (E3 : Hid (pText 2048 s st3 = (d, st4))) (hi : i < top64) (hd : d.length ≤ 2048) (hbs : base ≤ 4611686018427387904) (hn : n ≤ 1000000000000)
    (x0 x1 x2 x4 x5 x7 x8 : Value) (al : Option Addr) (cl : Nat) (hbad : ¬ (mayEn ⟨t, kd, d⟩ = true ∧ base < i ∧ i - base - 1 ≤ n))
    (h : JR s b k 98 w #[x0, x1, x2, .int .u64 base, x4, x5, .slice al n cl, x7, x8] st w) :
    Calls Tryz.prog 85 #[.pointer (some ⟨k, 0, none⟩), .pointer (some ⟨b, 0, none⟩)] w fun e w' => e = .panicked fault ∧ JR s b k 98 w #[x0, x1, x2, .int .u64 base, x4, x5, .slice al n cl, x7, x8] st4 w' := by
  have HJ0 := hid h
  have hkl := h.lt
  have hbl := h.1.lt
  have HME := hid (show d.length ≤ maxLen by unfold maxLen; omega)
  clear h
  unfold top64 at hi
  go_enter Tryz.func85, Tryz.ntmps85
  go_wp2_with fail
  refine Calls.mono (jrNum hs E0.out HJ0.out) ?_
  rintro e w1 ⟨rfl, J1, _⟩
  have HJ1 := hid J1
  clear J1 HJ0
  go_wp2_with fail
  refine Calls.mono (jrNum hs E1.out HJ1.out) ?_
  rintro e w2 ⟨rfl, J2, _⟩
  have HJ2 := hid J2
  clear J2 HJ1
  go_wp2_with fail
  refine Calls.mono (jrCount (m := 3) (by decide) hs E2.out HJ2.out) ?_
  rintro e w3 ⟨rfl, J3, _⟩
  have HJ3 := hid J3
  clear J3 HJ2
  go_wp2_with fail
  refine Calls.mono (jrText (m := 2048) (by decide) hs E3.out HJ3.out) ?_
  rintro e w4 ⟨rfl, J4, _⟩
  have hE : EW s b k w #[x0, x1, x2, .int .u64 base, x4, x5, .slice al n cl, x7, x8] st4 w4.heap.size #[.int .u64 t, .int .i64 (kd : Nat), .string (str d)] (w4.alloc (.cells #[.int .u64 t, .int .i64 (kd : Nat), .string (str d)] 116)) := ⟨J4.below ((Below.refl _ _).alloc (Nat.le_refl _) _), heap_alloc_new _ _⟩
  have hks : k < w4.heap.size := J4.lt
  have HE := hid hE
  have hwg : w.heap.size ≤ w4.heap.size := J4.kept.2.2.2.1
  clear hE J4 HJ3
  go_wp2_with fail
  generalize hge : w4.heap.size = g at *
  generalize w4.alloc (.cells #[.int .u64 t, .int .i64 (kd : Nat), .string (str d)] 116) = W5 at *
  have hE5 : EW s b k w #[x0, x1, x2, .int .u64 base, x4, x5, .slice al n cl, x7, x8] st4 g #[.int .u64 t, .int .i64 (kd : Nat), .string (str d)] W5.drew := HE.out
  have HCO : Hid (∀ W : World, EW s b k w #[x0, x1, x2, .int .u64 base, x4, x5, .slice al n cl, x7, x8] st4 g #[.int .u64 t, .int .i64 (kd : Nat), .string (str d)] W → W.cell? ⟨g, 0, none⟩ = some (.int .u64 t) ∧ W.cell? ⟨g, 1, none⟩ = some (.int .i64 (kd : Nat)) ∧ W.cell? ⟨g, 2, none⟩ = some (.string (str d)) ∧ W.cell? ⟨k, 3, none⟩ = some (.int .u64 base) ∧ W.cell? ⟨k, 6, none⟩ = some (.slice al n cl)) :=
    fun W h => ⟨cell_in h.2 0 _ rfl, cell_in h.2 1 _ rfl, cell_in h.2 2 _ rfl, h.1.at 3 _ rfl, h.1.at 6 _ rfl⟩
  by_cases hm : mayEn ⟨t, kd, d⟩ = true
  · by_cases hbi : base < i
    · as_aux_lemma =>
      have hjn : ¬ ((i - base - 1 : Nat) : Int) ≤ (n : Int) := fun h => hbad ⟨hm, hbi, by omega⟩
      have hw1 : IntKind.u64.wrap ((i : Int) - (base : Int)) = ((i - base : Nat) : Int) := by rw [IntKind.wrap_u64]; omega
      have hw2 : IntKind.u64.wrap (((i - base : Nat) : Int) - 1) = ((i - base - 1 : Nat) : Int) := by rw [IntKind.wrap_u64]; omega
      have hw3 : IntKind.u64.wrap (n : Int) = (n : Int) := by rw [IntKind.wrap_u64]; omega
      have hlt : (base : Int) < (i : Int) := by omega
      clear hbad
      refine wp_region_held_drew (S := fun W => W.cell? ⟨g, 0, none⟩ = some (.int .u64 t) ∧ W.cell? ⟨g, 1, none⟩ = some (.int .i64 (kd : Nat)) ∧ W.cell? ⟨g, 2, none⟩ = some (.string (str d)) ∧ W.cell? ⟨k, 3, none⟩ = some (.int .u64 base) ∧ W.cell? ⟨k, 6, none⟩ = some (.slice al n cl)) (by kernel_rfl) (HCO.out _ hE5) (fun hHeld => ?_)
      refine wpAnyH_takeY (i := 0) (d := 15) (v := .agg #[.int .u64 t, .int .i64 (kd : Nat), .string (str d)]) rfl rfl (by kernel_rfl) (by kernel_rfl) (by kernel_rfl) (fun _ _ _ _ h => h) (by kernel_rfl) (fun w hS => ?_) hHeld ?_
      · obtain ⟨z0, z1, z2, z3, z6⟩ := hS
        go_simp
      try simp only [Act.put, List.setIfInBounds_toArray, List.set_cons_zero, List.set_cons_succ]
      refine wpAnyH_one (i := 1) rfl rfl (by kernel_rfl) ?_
      go_simp
      refine Calls.mono (may_en ⟨t, kd, d⟩ HME.out _) ?_
      rintro e w6 ⟨rfl, hb6⟩
      have hE6 := EW.below hE5 hb6
      have hS6 := HCO.out _ hE6
      refine ⟨hS6, ?_⟩
      rw [hm]
      try simp only [Act.put, List.setIfInBounds_toArray, List.set_cons_zero, List.set_cons_succ]
      refine wpAnyH_takeY (i := 2) (d := 17) (v := .bool true) rfl rfl (by kernel_rfl) (by kernel_rfl) (by kernel_rfl) (fun _ _ _ _ h => h) (by kernel_rfl) (fun w hS => ?_) hS6 ?_
      · obtain ⟨z0, z1, z2, z3, z6⟩ := hS
        go_simp
      try simp only [Act.put, List.setIfInBounds_toArray, List.set_cons_zero, List.set_cons_succ]
      refine wpAnyH_takeY (i := 3) (d := 18) (v := .int .u64 i) rfl rfl (by kernel_rfl) (by kernel_rfl) (by kernel_rfl) (fun _ _ _ _ h => h) (by kernel_rfl) (fun w hS => ?_) hS6 ?_
      · obtain ⟨z0, z1, z2, z3, z6⟩ := hS
        go_simp
      try simp only [Act.put, List.setIfInBounds_toArray, List.set_cons_zero, List.set_cons_succ]
      refine wpAnyH_takeY (i := 4) (d := 19) (v := .pointer (some ⟨k, 0, none⟩)) rfl rfl (by kernel_rfl) (by kernel_rfl) (by kernel_rfl) (fun _ _ _ _ h => h) (by kernel_rfl) (fun w hS => ?_) hS6 ?_
      · obtain ⟨z0, z1, z2, z3, z6⟩ := hS
        go_simp
      try simp only [Act.put, List.setIfInBounds_toArray, List.set_cons_zero, List.set_cons_succ]
      refine wpAnyH_takeY (i := 5) (d := 20) (v := .pointer (some ⟨k, 0, none⟩)) rfl rfl (by kernel_rfl) (by kernel_rfl) (by kernel_rfl) (fun _ _ _ _ h => h) (by kernel_rfl) (fun w hS => ?_) hS6 ?_
      · obtain ⟨z0, z1, z2, z3, z6⟩ := hS
        go_simp
      try simp only [Act.put, List.setIfInBounds_toArray, List.set_cons_zero, List.set_cons_succ]
      refine wpAnyH_takeY (i := 6) (d := 21) (v := .pointer (some ⟨k, 3, none⟩)) rfl rfl (by kernel_rfl) (by kernel_rfl) (by kernel_rfl) (fun _ _ _ _ h => h) (by kernel_rfl) (fun w hS => ?_) hS6 ?_
      · obtain ⟨z0, z1, z2, z3, z6⟩ := hS
        go_simp
      try simp only [Act.put, List.setIfInBounds_toArray, List.set_cons_zero, List.set_cons_succ]
      refine wpAnyH_takeY (i := 7) (d := 22) (v := .pointer (some ⟨k, 3, none⟩)) rfl rfl (by kernel_rfl) (by kernel_rfl) (by kernel_rfl) (fun _ _ _ _ h => h) (by kernel_rfl) (fun w hS => ?_) hS6 ?_
      · obtain ⟨z0, z1, z2, z3, z6⟩ := hS
        go_simp
      try simp only [Act.put, List.setIfInBounds_toArray, List.set_cons_zero, List.set_cons_succ]
      refine wpAnyH_takeY (i := 8) (d := 23) (v := .int .u64 base) rfl rfl (by kernel_rfl) (by kernel_rfl) (by kernel_rfl) (fun _ _ _ _ h => h) (by kernel_rfl) (fun w hS => ?_) hS6 ?_
      · obtain ⟨z0, z1, z2, z3, z6⟩ := hS
        go_simp
      try simp only [Act.put, List.setIfInBounds_toArray, List.set_cons_zero, List.set_cons_succ]
      refine wpAnyH_takeY (i := 9) (d := 24) (v := .bool true) rfl rfl (by kernel_rfl) (by kernel_rfl) (by kernel_rfl) (fun _ _ _ _ h => h) (by kernel_rfl) (fun w hS => ?_) hS6 ?_
      · obtain ⟨z0, z1, z2, z3, z6⟩ := hS
        go_simp
      try simp only [Act.put, List.setIfInBounds_toArray, List.set_cons_zero, List.set_cons_succ]
      refine wpAnyH_takeY (i := 10) (d := 25) (v := .bool true) rfl rfl (by kernel_rfl) (by kernel_rfl) (by kernel_rfl) (fun _ _ _ _ h => h) (by kernel_rfl) (fun w hS => ?_) hS6 ?_
      · obtain ⟨z0, z1, z2, z3, z6⟩ := hS
        go_simp
      try simp only [Act.put, List.setIfInBounds_toArray, List.set_cons_zero, List.set_cons_succ]
      refine wpAnyH_takeY (i := 11) (d := 26) (v := .bool true) rfl rfl (by kernel_rfl) (by kernel_rfl) (by kernel_rfl) (fun _ _ _ _ h => h) (by kernel_rfl) (fun w hS => ?_) hS6 ?_
      · obtain ⟨z0, z1, z2, z3, z6⟩ := hS
        go_simp
      try simp only [Act.put, List.setIfInBounds_toArray, List.set_cons_zero, List.set_cons_succ]
      refine wpAnyH_takeY (i := 12) (d := 27) (v := .int .u64 i) rfl rfl (by kernel_rfl) (by kernel_rfl) (by kernel_rfl) (fun _ _ _ _ h => h) (by kernel_rfl) (fun w hS => ?_) hS6 ?_
      · obtain ⟨z0, z1, z2, z3, z6⟩ := hS
        go_simp
      try simp only [Act.put, List.setIfInBounds_toArray, List.set_cons_zero, List.set_cons_succ]
      refine wpAnyH_takeY (i := 13) (d := 28) (v := .pointer (some ⟨k, 0, none⟩)) rfl rfl (by kernel_rfl) (by kernel_rfl) (by kernel_rfl) (fun _ _ _ _ h => h) (by kernel_rfl) (fun w hS => ?_) hS6 ?_
      · obtain ⟨z0, z1, z2, z3, z6⟩ := hS
        go_simp
      try simp only [Act.put, List.setIfInBounds_toArray, List.set_cons_zero, List.set_cons_succ]
      refine wpAnyH_takeY (i := 14) (d := 29) (v := .pointer (some ⟨k, 0, none⟩)) rfl rfl (by kernel_rfl) (by kernel_rfl) (by kernel_rfl) (fun _ _ _ _ h => h) (by kernel_rfl) (fun w hS => ?_) hS6 ?_
      · obtain ⟨z0, z1, z2, z3, z6⟩ := hS
        go_simp
      try simp only [Act.put, List.setIfInBounds_toArray, List.set_cons_zero, List.set_cons_succ]
      refine wpAnyH_takeY (i := 15) (d := 30) (v := .pointer (some ⟨k, 3, none⟩)) rfl rfl (by kernel_rfl) (by kernel_rfl) (by kernel_rfl) (fun _ _ _ _ h => h) (by kernel_rfl) (fun w hS => ?_) hS6 ?_
      · obtain ⟨z0, z1, z2, z3, z6⟩ := hS
        go_simp
      try simp only [Act.put, List.setIfInBounds_toArray, List.set_cons_zero, List.set_cons_succ]
      refine wpAnyH_takeY (i := 16) (d := 31) (v := .pointer (some ⟨k, 3, none⟩)) rfl rfl (by kernel_rfl) (by kernel_rfl) (by kernel_rfl) (fun _ _ _ _ h => h) (by kernel_rfl) (fun w hS => ?_) hS6 ?_
      · obtain ⟨z0, z1, z2, z3, z6⟩ := hS
        go_simp
      try simp only [Act.put, List.setIfInBounds_toArray, List.set_cons_zero, List.set_cons_succ]
      refine wpAnyH_takeY (i := 17) (d := 32) (v := .int .u64 base) rfl rfl (by kernel_rfl) (by kernel_rfl) (by kernel_rfl) (fun _ _ _ _ h => h) (by kernel_rfl) (fun w hS => ?_) hS6 ?_
      · obtain ⟨z0, z1, z2, z3, z6⟩ := hS
        go_simp
      try simp only [Act.put, List.setIfInBounds_toArray, List.set_cons_zero, List.set_cons_succ]
      refine wpAnyH_takeY (i := 18) (d := 33) (v := .int .u64 ((i - base : Nat) : Int)) rfl rfl (by kernel_rfl) (by kernel_rfl) (by kernel_rfl) (fun _ _ _ _ h => h) (by kernel_rfl) (fun w hS => ?_) hS6 ?_
      · obtain ⟨z0, z1, z2, z3, z6⟩ := hS
        go_simp
      try simp only [Act.put, List.setIfInBounds_toArray, List.set_cons_zero, List.set_cons_succ]
      refine wpAnyH_takeY (i := 19) (d := 34) (v := .int .u64 ((i - base - 1 : Nat) : Int)) rfl rfl (by kernel_rfl) (by kernel_rfl) (by kernel_rfl) (fun _ _ _ _ h => h) (by kernel_rfl) (fun w hS => ?_) hS6 ?_
      · obtain ⟨z0, z1, z2, z3, z6⟩ := hS
        go_simp
      try simp only [Act.put, List.setIfInBounds_toArray, List.set_cons_zero, List.set_cons_succ]
      refine wpAnyH_takeY (i := 20) (d := 35) (v := .pointer (some ⟨k, 0, none⟩)) rfl rfl (by kernel_rfl) (by kernel_rfl) (by kernel_rfl) (fun _ _ _ _ h => h) (by kernel_rfl) (fun w hS => ?_) hS6 ?_
      · obtain ⟨z0, z1, z2, z3, z6⟩ := hS
        go_simp
      try simp only [Act.put, List.setIfInBounds_toArray, List.set_cons_zero, List.set_cons_succ]
      refine wpAnyH_takeY (i := 21) (d := 36) (v := .pointer (some ⟨k, 0, none⟩)) rfl rfl (by kernel_rfl) (by kernel_rfl) (by kernel_rfl) (fun _ _ _ _ h => h) (by kernel_rfl) (fun w hS => ?_) hS6 ?_
      · obtain ⟨z0, z1, z2, z3, z6⟩ := hS
        go_simp
      try simp only [Act.put, List.setIfInBounds_toArray, List.set_cons_zero, List.set_cons_succ]
      refine wpAnyH_takeY (i := 22) (d := 37) (v := .pointer (some ⟨k, 3, none⟩)) rfl rfl (by kernel_rfl) (by kernel_rfl) (by kernel_rfl) (fun _ _ _ _ h => h) (by kernel_rfl) (fun w hS => ?_) hS6 ?_
      · obtain ⟨z0, z1, z2, z3, z6⟩ := hS
        go_simp
      try simp only [Act.put, List.setIfInBounds_toArray, List.set_cons_zero, List.set_cons_succ]
      refine wpAnyH_takeY (i := 23) (d := 38) (v := .pointer (some ⟨k, 6, none⟩)) rfl rfl (by kernel_rfl) (by kernel_rfl) (by kernel_rfl) (fun _ _ _ _ h => h) (by kernel_rfl) (fun w hS => ?_) hS6 ?_
      · obtain ⟨z0, z1, z2, z3, z6⟩ := hS
        go_simp
      try simp only [Act.put, List.setIfInBounds_toArray, List.set_cons_zero, List.set_cons_succ]
      refine wpAnyH_takeY (i := 24) (d := 39) (v := .slice al n cl) rfl rfl (by kernel_rfl) (by kernel_rfl) (by kernel_rfl) (fun _ _ _ _ h => h) (by kernel_rfl) (fun w hS => ?_) hS6 ?_
      · obtain ⟨z0, z1, z2, z3, z6⟩ := hS
        go_simp
      try simp only [Act.put, List.setIfInBounds_toArray, List.set_cons_zero, List.set_cons_succ]
      refine wpAnyH_takeY (i := 25) (d := 40) (v := .int .i64 n) rfl rfl (by kernel_rfl) (by kernel_rfl) (by kernel_rfl) (fun _ _ _ _ h => h) (by kernel_rfl) (fun w hS => ?_) hS6 ?_
      · obtain ⟨z0, z1, z2, z3, z6⟩ := hS
        go_simp
      try simp only [Act.put, List.setIfInBounds_toArray, List.set_cons_zero, List.set_cons_succ]
      refine wpAnyH_takeY (i := 26) (d := 41) (v := .int .u64 n) rfl rfl (by kernel_rfl) (by kernel_rfl) (by kernel_rfl) (fun _ _ _ _ h => h) (by kernel_rfl) (fun w hS => ?_) hS6 ?_
      · obtain ⟨z0, z1, z2, z3, z6⟩ := hS
        go_simp
      try simp only [Act.put, List.setIfInBounds_toArray, List.set_cons_zero, List.set_cons_succ]
      refine wpAnyH_takeY (i := 27) (d := 42) (v := .bool false) rfl rfl (by kernel_rfl) (by kernel_rfl) (by kernel_rfl) (fun _ _ _ _ h => h) (by kernel_rfl) (fun w hS => ?_) hS6 ?_
      · obtain ⟨z0, z1, z2, z3, z6⟩ := hS
        go_simp
      try simp only [Act.put, List.setIfInBounds_toArray, List.set_cons_zero, List.set_cons_succ]
      refine wpAnyH_takeY (i := 28) (d := 43) (v := .bool false) rfl rfl (by kernel_rfl) (by kernel_rfl) (by kernel_rfl) (fun _ _ _ _ h => h) (by kernel_rfl) (fun w hS => ?_) hS6 ?_
      · obtain ⟨z0, z1, z2, z3, z6⟩ := hS
        go_simp
      try simp only [Act.put, List.setIfInBounds_toArray, List.set_cons_zero, List.set_cons_succ]
      refine wpAnyH_one (i := 29) rfl rfl (by kernel_rfl) ?_
      go_simp
      refine Calls.mono (must_no rfl _) ?_
      rintro e w7 ⟨rfl, rfl⟩
      exact bodyPost_panic (a := _) rfl ⟨rfl, hE6.1⟩
    · as_aux_lemma =>
      have hlt : ¬ (base : Int) < (i : Int) := by omega
      clear hbad
      refine wp_region_held_drew (S := fun W => W.cell? ⟨g, 0, none⟩ = some (.int .u64 t) ∧ W.cell? ⟨g, 1, none⟩ = some (.int .i64 (kd : Nat)) ∧ W.cell? ⟨g, 2, none⟩ = some (.string (str d)) ∧ W.cell? ⟨k, 3, none⟩ = some (.int .u64 base) ∧ W.cell? ⟨k, 6, none⟩ = some (.slice al n cl)) (by kernel_rfl) (HCO.out _ hE5) (fun hHeld => ?_)
      refine wpAnyH_takeY (i := 0) (d := 15) (v := .agg #[.int .u64 t, .int .i64 (kd : Nat), .string (str d)]) rfl rfl (by kernel_rfl) (by kernel_rfl) (by kernel_rfl) (fun _ _ _ _ h => h) (by kernel_rfl) (fun w hS => ?_) hHeld ?_
      · obtain ⟨z0, z1, z2, z3, z6⟩ := hS
        go_simp
      try simp only [Act.put, List.setIfInBounds_toArray, List.set_cons_zero, List.set_cons_succ]
      refine wpAnyH_one (i := 1) rfl rfl (by kernel_rfl) ?_
      go_simp
      refine Calls.mono (may_en ⟨t, kd, d⟩ HME.out _) ?_
      rintro e w6 ⟨rfl, hb6⟩
      have hE6 := EW.below hE5 hb6
      have hS6 := HCO.out _ hE6
      refine ⟨hS6, ?_⟩
      rw [hm]
      try simp only [Act.put, List.setIfInBounds_toArray, List.set_cons_zero, List.set_cons_succ]
      refine wpAnyH_takeY (i := 2) (d := 17) (v := .bool true) rfl rfl (by kernel_rfl) (by kernel_rfl) (by kernel_rfl) (fun _ _ _ _ h => h) (by kernel_rfl) (fun w hS => ?_) hS6 ?_
      · obtain ⟨z0, z1, z2, z3, z6⟩ := hS
        go_simp
      try simp only [Act.put, List.setIfInBounds_toArray, List.set_cons_zero, List.set_cons_succ]
      refine wpAnyH_takeY (i := 3) (d := 18) (v := .int .u64 i) rfl rfl (by kernel_rfl) (by kernel_rfl) (by kernel_rfl) (fun _ _ _ _ h => h) (by kernel_rfl) (fun w hS => ?_) hS6 ?_
      · obtain ⟨z0, z1, z2, z3, z6⟩ := hS
        go_simp
      try simp only [Act.put, List.setIfInBounds_toArray, List.set_cons_zero, List.set_cons_succ]
      refine wpAnyH_takeY (i := 4) (d := 19) (v := .pointer (some ⟨k, 0, none⟩)) rfl rfl (by kernel_rfl) (by kernel_rfl) (by kernel_rfl) (fun _ _ _ _ h => h) (by kernel_rfl) (fun w hS => ?_) hS6 ?_
      · obtain ⟨z0, z1, z2, z3, z6⟩ := hS
        go_simp
      try simp only [Act.put, List.setIfInBounds_toArray, List.set_cons_zero, List.set_cons_succ]
      refine wpAnyH_takeY (i := 5) (d := 20) (v := .pointer (some ⟨k, 0, none⟩)) rfl rfl (by kernel_rfl) (by kernel_rfl) (by kernel_rfl) (fun _ _ _ _ h => h) (by kernel_rfl) (fun w hS => ?_) hS6 ?_
      · obtain ⟨z0, z1, z2, z3, z6⟩ := hS
        go_simp
      try simp only [Act.put, List.setIfInBounds_toArray, List.set_cons_zero, List.set_cons_succ]
      refine wpAnyH_takeY (i := 6) (d := 21) (v := .pointer (some ⟨k, 3, none⟩)) rfl rfl (by kernel_rfl) (by kernel_rfl) (by kernel_rfl) (fun _ _ _ _ h => h) (by kernel_rfl) (fun w hS => ?_) hS6 ?_
      · obtain ⟨z0, z1, z2, z3, z6⟩ := hS
        go_simp
      try simp only [Act.put, List.setIfInBounds_toArray, List.set_cons_zero, List.set_cons_succ]
      refine wpAnyH_takeY (i := 7) (d := 22) (v := .pointer (some ⟨k, 3, none⟩)) rfl rfl (by kernel_rfl) (by kernel_rfl) (by kernel_rfl) (fun _ _ _ _ h => h) (by kernel_rfl) (fun w hS => ?_) hS6 ?_
      · obtain ⟨z0, z1, z2, z3, z6⟩ := hS
        go_simp
      try simp only [Act.put, List.setIfInBounds_toArray, List.set_cons_zero, List.set_cons_succ]
      refine wpAnyH_takeY (i := 8) (d := 23) (v := .int .u64 base) rfl rfl (by kernel_rfl) (by kernel_rfl) (by kernel_rfl) (fun _ _ _ _ h => h) (by kernel_rfl) (fun w hS => ?_) hS6 ?_
      · obtain ⟨z0, z1, z2, z3, z6⟩ := hS
        go_simp
      try simp only [Act.put, List.setIfInBounds_toArray, List.set_cons_zero, List.set_cons_succ]
      refine wpAnyH_takeY (i := 9) (d := 24) (v := .bool false) rfl rfl (by kernel_rfl) (by kernel_rfl) (by kernel_rfl) (fun _ _ _ _ h => h) (by kernel_rfl) (fun w hS => ?_) hS6 ?_
      · obtain ⟨z0, z1, z2, z3, z6⟩ := hS
        go_simp
      try simp only [Act.put, List.setIfInBounds_toArray, List.set_cons_zero, List.set_cons_succ]
      refine wpAnyH_takeY (i := 10) (d := 25) (v := .bool false) rfl rfl (by kernel_rfl) (by kernel_rfl) (by kernel_rfl) (fun _ _ _ _ h => h) (by kernel_rfl) (fun w hS => ?_) hS6 ?_
      · obtain ⟨z0, z1, z2, z3, z6⟩ := hS
        go_simp
      try simp only [Act.put, List.setIfInBounds_toArray, List.set_cons_zero, List.set_cons_succ]
      refine wpAnyH_takeY (i := 11) (d := 26) (v := .bool false) rfl rfl (by kernel_rfl) (by kernel_rfl) (by kernel_rfl) (fun _ _ _ _ h => h) (by kernel_rfl) (fun w hS => ?_) hS6 ?_
      · obtain ⟨z0, z1, z2, z3, z6⟩ := hS
        go_simp
      try simp only [Act.put, List.setIfInBounds_toArray, List.set_cons_zero, List.set_cons_succ]
      refine wpAnyH_takeN (i := 12) (d := 27) rfl rfl (by kernel_rfl) (by kernel_rfl) (by kernel_rfl) (fun _ _ _ _ h => h) (by kernel_rfl) hS6 ?_
      try simp only [Act.put, List.setIfInBounds_toArray, List.set_cons_zero, List.set_cons_succ]
      refine wpAnyH_takeN (i := 13) (d := 28) rfl rfl (by kernel_rfl) (by kernel_rfl) (by kernel_rfl) (fun _ _ _ _ h => h) (by kernel_rfl) hS6 ?_
      try simp only [Act.put, List.setIfInBounds_toArray, List.set_cons_zero, List.set_cons_succ]
      refine wpAnyH_takeN (i := 14) (d := 29) rfl rfl (by kernel_rfl) (by kernel_rfl) (by kernel_rfl) (fun _ _ _ _ h => h) (by kernel_rfl) hS6 ?_
      try simp only [Act.put, List.setIfInBounds_toArray, List.set_cons_zero, List.set_cons_succ]
      refine wpAnyH_takeN (i := 15) (d := 30) rfl rfl (by kernel_rfl) (by kernel_rfl) (by kernel_rfl) (fun _ _ _ _ h => h) (by kernel_rfl) hS6 ?_
      try simp only [Act.put, List.setIfInBounds_toArray, List.set_cons_zero, List.set_cons_succ]
      refine wpAnyH_takeN (i := 16) (d := 31) rfl rfl (by kernel_rfl) (by kernel_rfl) (by kernel_rfl) (fun _ _ _ _ h => h) (by kernel_rfl) hS6 ?_
      try simp only [Act.put, List.setIfInBounds_toArray, List.set_cons_zero, List.set_cons_succ]
      refine wpAnyH_takeN (i := 17) (d := 32) rfl rfl (by kernel_rfl) (by kernel_rfl) (by kernel_rfl) (fun _ _ _ _ h => h) (by kernel_rfl) hS6 ?_
      try simp only [Act.put, List.setIfInBounds_toArray, List.set_cons_zero, List.set_cons_succ]
      refine wpAnyH_takeN (i := 18) (d := 33) rfl rfl (by kernel_rfl) (by kernel_rfl) (by kernel_rfl) (fun _ _ _ _ h => h) (by kernel_rfl) hS6 ?_
      try simp only [Act.put, List.setIfInBounds_toArray, List.set_cons_zero, List.set_cons_succ]
      refine wpAnyH_takeN (i := 19) (d := 34) rfl rfl (by kernel_rfl) (by kernel_rfl) (by kernel_rfl) (fun _ _ _ _ h => h) (by kernel_rfl) hS6 ?_
      try simp only [Act.put, List.setIfInBounds_toArray, List.set_cons_zero, List.set_cons_succ]
      refine wpAnyH_takeN (i := 20) (d := 35) rfl rfl (by kernel_rfl) (by kernel_rfl) (by kernel_rfl) (fun _ _ _ _ h => h) (by kernel_rfl) hS6 ?_
      try simp only [Act.put, List.setIfInBounds_toArray, List.set_cons_zero, List.set_cons_succ]
      refine wpAnyH_takeN (i := 21) (d := 36) rfl rfl (by kernel_rfl) (by kernel_rfl) (by kernel_rfl) (fun _ _ _ _ h => h) (by kernel_rfl) hS6 ?_
      try simp only [Act.put, List.setIfInBounds_toArray, List.set_cons_zero, List.set_cons_succ]
      refine wpAnyH_takeN (i := 22) (d := 37) rfl rfl (by kernel_rfl) (by kernel_rfl) (by kernel_rfl) (fun _ _ _ _ h => h) (by kernel_rfl) hS6 ?_
      try simp only [Act.put, List.setIfInBounds_toArray, List.set_cons_zero, List.set_cons_succ]
      refine wpAnyH_takeN (i := 23) (d := 38) rfl rfl (by kernel_rfl) (by kernel_rfl) (by kernel_rfl) (fun _ _ _ _ h => h) (by kernel_rfl) hS6 ?_
      try simp only [Act.put, List.setIfInBounds_toArray, List.set_cons_zero, List.set_cons_succ]
      refine wpAnyH_takeN (i := 24) (d := 39) rfl rfl (by kernel_rfl) (by kernel_rfl) (by kernel_rfl) (fun _ _ _ _ h => h) (by kernel_rfl) hS6 ?_
      try simp only [Act.put, List.setIfInBounds_toArray, List.set_cons_zero, List.set_cons_succ]
      refine wpAnyH_takeN (i := 25) (d := 40) rfl rfl (by kernel_rfl) (by kernel_rfl) (by kernel_rfl) (fun _ _ _ _ h => h) (by kernel_rfl) hS6 ?_
      try simp only [Act.put, List.setIfInBounds_toArray, List.set_cons_zero, List.set_cons_succ]
      refine wpAnyH_takeN (i := 26) (d := 41) rfl rfl (by kernel_rfl) (by kernel_rfl) (by kernel_rfl) (fun _ _ _ _ h => h) (by kernel_rfl) hS6 ?_
      try simp only [Act.put, List.setIfInBounds_toArray, List.set_cons_zero, List.set_cons_succ]
      refine wpAnyH_takeN (i := 27) (d := 42) rfl rfl (by kernel_rfl) (by kernel_rfl) (by kernel_rfl) (fun _ _ _ _ h => h) (by kernel_rfl) hS6 ?_
      try simp only [Act.put, List.setIfInBounds_toArray, List.set_cons_zero, List.set_cons_succ]
      refine wpAnyH_takeY (i := 28) (d := 43) (v := .bool false) rfl rfl (by kernel_rfl) (by kernel_rfl) (by kernel_rfl) (fun _ _ _ _ h => h) (by kernel_rfl) (fun w hS => ?_) hS6 ?_
      · obtain ⟨z0, z1, z2, z3, z6⟩ := hS
        go_simp
      try simp only [Act.put, List.setIfInBounds_toArray, List.set_cons_zero, List.set_cons_succ]
      refine wpAnyH_one (i := 29) rfl rfl (by kernel_rfl) ?_
      go_simp
      refine Calls.mono (must_no rfl _) ?_
      rintro e w7 ⟨rfl, rfl⟩
      exact bodyPost_panic (a := _) rfl ⟨rfl, hE6.1⟩
  · as_aux_lemma =>
    rw [Bool.not_eq_true] at hm
    clear hbad
    refine wp_region_held_drew (S := fun W => W.cell? ⟨g, 0, none⟩ = some (.int .u64 t) ∧ W.cell? ⟨g, 1, none⟩ = some (.int .i64 (kd : Nat)) ∧ W.cell? ⟨g, 2, none⟩ = some (.string (str d)) ∧ W.cell? ⟨k, 3, none⟩ = some (.int .u64 base) ∧ W.cell? ⟨k, 6, none⟩ = some (.slice al n cl)) (by kernel_rfl) (HCO.out _ hE5) (fun hHeld => ?_)
    refine wpAnyH_takeY (i := 0) (d := 15) (v := .agg #[.int .u64 t, .int .i64 (kd : Nat), .string (str d)]) rfl rfl (by kernel_rfl) (by kernel_rfl) (by kernel_rfl) (fun _ _ _ _ h => h) (by kernel_rfl) (fun w hS => ?_) hHeld ?_
    · obtain ⟨z0, z1, z2, z3, z6⟩ := hS
      go_simp
    try simp only [Act.put, List.setIfInBounds_toArray, List.set_cons_zero, List.set_cons_succ]
    refine wpAnyH_one (i := 1) rfl rfl (by kernel_rfl) ?_
    go_simp
    refine Calls.mono (may_en ⟨t, kd, d⟩ HME.out _) ?_
    rintro e w6 ⟨rfl, hb6⟩
    have hE6 := EW.below hE5 hb6
    have hS6 := HCO.out _ hE6
    refine ⟨hS6, ?_⟩
    rw [hm]
    try simp only [Act.put, List.setIfInBounds_toArray, List.set_cons_zero, List.set_cons_succ]
    refine wpAnyH_takeY (i := 2) (d := 17) (v := .bool false) rfl rfl (by kernel_rfl) (by kernel_rfl) (by kernel_rfl) (fun _ _ _ _ h => h) (by kernel_rfl) (fun w hS => ?_) hS6 ?_
    · obtain ⟨z0, z1, z2, z3, z6⟩ := hS
      go_simp
    try simp only [Act.put, List.setIfInBounds_toArray, List.set_cons_zero, List.set_cons_succ]
    refine wpAnyH_takeN (i := 3) (d := 18) rfl rfl (by kernel_rfl) (by kernel_rfl) (by kernel_rfl) (fun _ _ _ _ h => h) (by kernel_rfl) hS6 ?_
    try simp only [Act.put, List.setIfInBounds_toArray, List.set_cons_zero, List.set_cons_succ]
    refine wpAnyH_takeN (i := 4) (d := 19) rfl rfl (by kernel_rfl) (by kernel_rfl) (by kernel_rfl) (fun _ _ _ _ h => h) (by kernel_rfl) hS6 ?_
    try simp only [Act.put, List.setIfInBounds_toArray, List.set_cons_zero, List.set_cons_succ]
    refine wpAnyH_takeN (i := 5) (d := 20) rfl rfl (by kernel_rfl) (by kernel_rfl) (by kernel_rfl) (fun _ _ _ _ h => h) (by kernel_rfl) hS6 ?_
    try simp only [Act.put, List.setIfInBounds_toArray, List.set_cons_zero, List.set_cons_succ]
    refine wpAnyH_takeN (i := 6) (d := 21) rfl rfl (by kernel_rfl) (by kernel_rfl) (by kernel_rfl) (fun _ _ _ _ h => h) (by kernel_rfl) hS6 ?_
    try simp only [Act.put, List.setIfInBounds_toArray, List.set_cons_zero, List.set_cons_succ]
    refine wpAnyH_takeN (i := 7) (d := 22) rfl rfl (by kernel_rfl) (by kernel_rfl) (by kernel_rfl) (fun _ _ _ _ h => h) (by kernel_rfl) hS6 ?_
    try simp only [Act.put, List.setIfInBounds_toArray, List.set_cons_zero, List.set_cons_succ]
    refine wpAnyH_takeN (i := 8) (d := 23) rfl rfl (by kernel_rfl) (by kernel_rfl) (by kernel_rfl) (fun _ _ _ _ h => h) (by kernel_rfl) hS6 ?_
    try simp only [Act.put, List.setIfInBounds_toArray, List.set_cons_zero, List.set_cons_succ]
    refine wpAnyH_takeN (i := 9) (d := 24) rfl rfl (by kernel_rfl) (by kernel_rfl) (by kernel_rfl) (fun _ _ _ _ h => h) (by kernel_rfl) hS6 ?_
    try simp only [Act.put, List.setIfInBounds_toArray, List.set_cons_zero, List.set_cons_succ]
    refine wpAnyH_takeY (i := 10) (d := 25) (v := .bool false) rfl rfl (by kernel_rfl) (by kernel_rfl) (by kernel_rfl) (fun _ _ _ _ h => h) (by kernel_rfl) (fun w hS => ?_) hS6 ?_
    · obtain ⟨z0, z1, z2, z3, z6⟩ := hS
      go_simp
    try simp only [Act.put, List.setIfInBounds_toArray, List.set_cons_zero, List.set_cons_succ]
    refine wpAnyH_takeY (i := 11) (d := 26) (v := .bool false) rfl rfl (by kernel_rfl) (by kernel_rfl) (by kernel_rfl) (fun _ _ _ _ h => h) (by kernel_rfl) (fun w hS => ?_) hS6 ?_
    · obtain ⟨z0, z1, z2, z3, z6⟩ := hS
      go_simp
    try simp only [Act.put, List.setIfInBounds_toArray, List.set_cons_zero, List.set_cons_succ]
    refine wpAnyH_takeN (i := 12) (d := 27) rfl rfl (by kernel_rfl) (by kernel_rfl) (by kernel_rfl) (fun _ _ _ _ h => h) (by kernel_rfl) hS6 ?_
    try simp only [Act.put, List.setIfInBounds_toArray, List.set_cons_zero, List.set_cons_succ]
    refine wpAnyH_takeN (i := 13) (d := 28) rfl rfl (by kernel_rfl) (by kernel_rfl) (by kernel_rfl) (fun _ _ _ _ h => h) (by kernel_rfl) hS6 ?_
    try simp only [Act.put, List.setIfInBounds_toArray, List.set_cons_zero, List.set_cons_succ]
    refine wpAnyH_takeN (i := 14) (d := 29) rfl rfl (by kernel_rfl) (by kernel_rfl) (by kernel_rfl) (fun _ _ _ _ h => h) (by kernel_rfl) hS6 ?_
    try simp only [Act.put, List.setIfInBounds_toArray, List.set_cons_zero, List.set_cons_succ]
    refine wpAnyH_takeN (i := 15) (d := 30) rfl rfl (by kernel_rfl) (by kernel_rfl) (by kernel_rfl) (fun _ _ _ _ h => h) (by kernel_rfl) hS6 ?_
    try simp only [Act.put, List.setIfInBounds_toArray, List.set_cons_zero, List.set_cons_succ]
    refine wpAnyH_takeN (i := 16) (d := 31) rfl rfl (by kernel_rfl) (by kernel_rfl) (by kernel_rfl) (fun _ _ _ _ h => h) (by kernel_rfl) hS6 ?_
    try simp only [Act.put, List.setIfInBounds_toArray, List.set_cons_zero, List.set_cons_succ]
    refine wpAnyH_takeN (i := 17) (d := 32) rfl rfl (by kernel_rfl) (by kernel_rfl) (by kernel_rfl) (fun _ _ _ _ h => h) (by kernel_rfl) hS6 ?_
    try simp only [Act.put, List.setIfInBounds_toArray, List.set_cons_zero, List.set_cons_succ]
    refine wpAnyH_takeN (i := 18) (d := 33) rfl rfl (by kernel_rfl) (by kernel_rfl) (by kernel_rfl) (fun _ _ _ _ h => h) (by kernel_rfl) hS6 ?_
    try simp only [Act.put, List.setIfInBounds_toArray, List.set_cons_zero, List.set_cons_succ]
    refine wpAnyH_takeN (i := 19) (d := 34) rfl rfl (by kernel_rfl) (by kernel_rfl) (by kernel_rfl) (fun _ _ _ _ h => h) (by kernel_rfl) hS6 ?_
    try simp only [Act.put, List.setIfInBounds_toArray, List.set_cons_zero, List.set_cons_succ]
    refine wpAnyH_takeN (i := 20) (d := 35) rfl rfl (by kernel_rfl) (by kernel_rfl) (by kernel_rfl) (fun _ _ _ _ h => h) (by kernel_rfl) hS6 ?_
    try simp only [Act.put, List.setIfInBounds_toArray, List.set_cons_zero, List.set_cons_succ]
    refine wpAnyH_takeN (i := 21) (d := 36) rfl rfl (by kernel_rfl) (by kernel_rfl) (by kernel_rfl) (fun _ _ _ _ h => h) (by kernel_rfl) hS6 ?_
    try simp only [Act.put, List.setIfInBounds_toArray, List.set_cons_zero, List.set_cons_succ]
    refine wpAnyH_takeN (i := 22) (d := 37) rfl rfl (by kernel_rfl) (by kernel_rfl) (by kernel_rfl) (fun _ _ _ _ h => h) (by kernel_rfl) hS6 ?_
    try simp only [Act.put, List.setIfInBounds_toArray, List.set_cons_zero, List.set_cons_succ]
    refine wpAnyH_takeN (i := 23) (d := 38) rfl rfl (by kernel_rfl) (by kernel_rfl) (by kernel_rfl) (fun _ _ _ _ h => h) (by kernel_rfl) hS6 ?_
    try simp only [Act.put, List.setIfInBounds_toArray, List.set_cons_zero, List.set_cons_succ]
    refine wpAnyH_takeN (i := 24) (d := 39) rfl rfl (by kernel_rfl) (by kernel_rfl) (by kernel_rfl) (fun _ _ _ _ h => h) (by kernel_rfl) hS6 ?_
    try simp only [Act.put, List.setIfInBounds_toArray, List.set_cons_zero, List.set_cons_succ]
    refine wpAnyH_takeN (i := 25) (d := 40) rfl rfl (by kernel_rfl) (by kernel_rfl) (by kernel_rfl) (fun _ _ _ _ h => h) (by kernel_rfl) hS6 ?_
    try simp only [Act.put, List.setIfInBounds_toArray, List.set_cons_zero, List.set_cons_succ]
    refine wpAnyH_takeN (i := 26) (d := 41) rfl rfl (by kernel_rfl) (by kernel_rfl) (by kernel_rfl) (fun _ _ _ _ h => h) (by kernel_rfl) hS6 ?_
    try simp only [Act.put, List.setIfInBounds_toArray, List.set_cons_zero, List.set_cons_succ]
    refine wpAnyH_takeN (i := 27) (d := 42) rfl rfl (by kernel_rfl) (by kernel_rfl) (by kernel_rfl) (fun _ _ _ _ h => h) (by kernel_rfl) hS6 ?_
    try simp only [Act.put, List.setIfInBounds_toArray, List.set_cons_zero, List.set_cons_succ]
    refine wpAnyH_takeY (i := 28) (d := 43) (v := .bool false) rfl rfl (by kernel_rfl) (by kernel_rfl) (by kernel_rfl) (fun _ _ _ _ h => h) (by kernel_rfl) (fun w hS => ?_) hS6 ?_
    · obtain ⟨z0, z1, z2, z3, z6⟩ := hS
      go_simp
    try simp only [Act.put, List.setIfInBounds_toArray, List.set_cons_zero, List.set_cons_succ]
    refine wpAnyH_one (i := 29) rfl rfl (by kernel_rfl) ?_
    go_simp
    refine Calls.mono (must_no rfl _) ?_
    rintro e w7 ⟨rfl, rfl⟩
    exact bodyPost_panic (a := _) rfl ⟨rfl, hE6.1⟩
end Go.Proofs.YtmehcogaopackaaGreat
