/-
  The law's alive.
-/
import Derived.Test.YtmehcogaopackaaGreatGQ
import Derived.Test.YtmehcogaopackaaGreatGM
import Derived.Test.YtmehcogaopackaaGreatJGreat
namespace Go.Proofs.YtmehcogaopackaaGreat
open Go.RowKit
set_option linter.unusedVariables false
set_option linter.unusedSimpArgs false
def alD0 : Ds := Ds.new 1000
def alS1 : Js := ⟨⟨0, 0, 1⟩, ⟨0, 0, [], []⟩, []⟩
def alS2 : Js := ⟨⟨0, 0, 1⟩, ⟨0, 0, [], twoEn⟩, []⟩
def alS3 : Js := ⟨⟨3, 2, 1⟩, ⟨0, 0, [], twoEn⟩, []⟩
def alS4 : Js := ⟨⟨3, 2, 2⟩, ⟨0, 0, [], twoEn⟩, []⟩
def alD1 : Ds := (jOpen alD0).1
def alD2 : Ds := (jAppend alD1 alS1 1 twoEn).1
def alD3 : Ds := (Ds.sync' (alD2.add (hardRec ⟨3, 2, 1⟩))).1
theorem al1 : (jOpen alD0).2 = (some alS1, 0) := by kernel_rfl
theorem al2 : (jAppend alD1 alS1 1 twoEn).2 = (alS2, 0) := by kernel_rfl
theorem al2b : jAppend alD2 alS2 4 twoEn = (alD2, alS2, 1) := by kernel_rfl
theorem al3a : (Ds.sync' (alD2.add (hardRec ⟨3, 2, 1⟩))).2 = 0 := by kernel_rfl
theorem al3 : jSave alD2 alS2 ⟨3, 2, 0⟩ = (alD3, alS3, 0) := by
  have h1 : ¬ ((2 : Int) < 0 ∨ (5 : Int) < 2) := by decide
  have h2 : ¬ ((⟨3, 2, alS2.hard.life⟩ : Hd) = alS2.hard) := by
    intro h
    have : (3 : Nat) = 0 := congrArg Hd.term h
    cases this
  unfold jSave
  rw [if_neg h1, if_neg h2]
  exact if_neg (by rw [show alS2.hard.life = 1 from rfl, al3a]; simp)
theorem al4 : (jOpen alD3).2 = (some alS4, 0) := by kernel_rfl
theorem dsnew_ok (c : Nat) (hc : c ≤ 1048576) : (Ds.new c).Ok 0 := ⟨⟨hc, Nat.zero_le _, Nat.zero_le _, by show (-9223372036854775808 : Int) ≤ 0; omega, by show (0 : Int) ≤ 9223372036854775807; omega⟩, Nat.le_refl _⟩
theorem trip {β : Type} {r : Ds × β} {x : β} (h : r.2 = x) : r = (r.1, x) := by rw [← h]
theorem al1' : jOpen alD0 = (alD1, some alS1, 0) := by unfold alD1; exact trip al1
theorem al2' : jAppend alD1 alS1 1 twoEn = (alD2, alS2, 0) := by unfold alD2; exact trip al2
theorem al4' : jOpen alD3 = ((jOpen alD3).1, some alS4, 0) := trip al4
theorem openPost_some {W : World} {p : Nat} {F : List Nat} {d : Ds} {S : Js} {n : Nat} {e : Ending} {W' : World} (h : OpenPost W p F (d, some S, n) e W') : ∃ j G, e = .returned (.tuple #[.pointer (some ⟨j, 0, none⟩), .int .i64 0]) ∧ JnAt W' j p G d S ∧ (∀ b ∈ G, b ∈ F ∨ W.heap.size ≤ b) ∧ Turn F W W' ∧ W.heap.size ≤ j := h
theorem twoEn_fit : ∀ e ∈ twoEn, e.term < top64 ∧ e.data.length ≤ 1048576 := by
  intro e he
  simp only [twoEn, List.mem_cons, List.not_mem_nil, or_false] at he
  rcases he with rfl | rfl <;> exact ⟨by decide, by decide⟩
theorem alOk1 : alD1.Ok 3 := by unfold alD1; exact jOpen_ok (dsnew_ok 1000 (by decide))
theorem alOk2 : alD2.Ok 4 := by unfold alD2; exact (jAppend_ok (S := alS1) alOk1 1 twoEn).1
theorem alOk3 : alD3.Ok 5 := by
  have h := (jSave_ok (S := alS2) alOk2 ⟨3, 2, 0⟩).1
  rw [al3] at h
  simp only at h
  exact h
theorem JnAt.sizeNot {W : World} {j p : Nat} {G : List Nat} {d : Ds} {S : Js} (h : JnAt W j p G d S) : W.heap.size ∉ G := fun hm => by have := h.lt _ hm; omega
set_option maxRecDepth 100000 in
/-- Append of the two entries -/
theorem append_two {W : World} {j p : Nat} {G : List Nat} {d d' : Ds} {S S' : Js} {c : Nat} (h : JnAt W j p G d S) {n : Nat} (hok : d.Ok n) (hn : n ≤ 900000) (fr : Nat) (hfr : fr < top64) (hsl : S.log.l.length ≤ 900000) (hA : jAppend d S fr twoEn = (d', S', c)) :
    Calls Tryz.prog 24 #[.pointer (some ⟨j, 0, none⟩), .int .u64 fr, .slice (some ⟨W.heap.size, 0, none⟩) 2 2] (W.alloc (.cells #[.int .u64 1, .int .i64 1, .string { data := #[] }, .int .u64 1, .int .i64 3, .string { data := #[120] }] 116)) fun e W' => e = .returned (.int .i64 (c : Nat)) ∧ JnAfter W j p G d' S' W' := by
  have hb : Below W.heap.size W (W.alloc (.cells #[.int .u64 1, .int .i64 1, .string { data := #[] }, .int .u64 1, .int .i64 3, .string { data := #[120] }] 116)) := (Below.refl _ _).alloc (Nat.le_refl _) _
  refine (append_any (h.below hb) hok hn fr twoEn _ hfr (two_cells W G h.sizeNot) (by decide) hsl twoEn_fit).mono ?_
  rintro e W' ⟨he, ha⟩
  rw [hA] at he ha
  exact ⟨he, JnAfter.trans (Turn.below hb) (fun _ h => .inl h) ha⟩
theorem field_log (a b c : Value) (x : Option Addr) (n k : Nat) (w : World) : (Instr.field 49 (.agg #[a, b, c, .slice x n k]) 3).run Tryz.prog w = .ok (.slice x n k) w := by
  simp [go_sem, Instr.field, Tryz.underlying49, Tryz.underlying47]
  rfl
set_option maxRecDepth 100000 in
set_option maxHeartbeats 8000000 in
theorem alive_any (W : World) : Calls Tryz.prog 5 #[] W fun e W' => e = .returned (.bool true) ∧ Below W.heap.size W W' := by
  go_enter Tryz.func5, Tryz.ntmps5
  go_wp2_with fail
  refine Calls.mono (show Calls Tryz.prog 6 #[.int .i64 1000] W _ from dnew_any 1000 (by decide) W) ?_
  rintro e w1 ⟨p, F, rfl, hd1, hf1, hb1⟩
  have HD1 := hid hd1
  have HB1 := hid hb1
  have HF1 := hid hf1
  clear hd1 hb1 hf1
  go_wp2_with fail
  refine Calls.mono (open_journal HD1.out (dsnew_ok 1000 (by decide)) (by decide)) ?_
  intro e w2 hp2
  rw [show Ds.new 1000 = alD0 from rfl, al1'] at hp2
  obtain ⟨j, G, rfl, hj2, hg2, ht2, hl2⟩ := openPost_some hp2
  have HJ2 := hid hj2
  have HG2 : Hid (∀ b ∈ G, W.heap.size ≤ b) := fun b hb => by
    rcases hg2 b hb with h | h
    · exact HF1.out b h
    · exact Nat.le_trans HB1.out.size h
  have HB2 : Hid (Below W.heap.size W w2) := HB1.out.trans (ht2.toBelow HB1.out.size HF1.out)
  clear hp2 hj2 hg2 ht2 hl2
  go_wp2_with fail
  refine Calls.mono (show Calls Tryz.prog 23 #[.pointer (some ⟨j, 0, none⟩)] w2 fun e W' => e = .returned (.agg #[.int .u64 0, .int .i64 0, .int .u64 1]) ∧ Below w2.heap.size w2 W' from jhard_any HJ2.out) ?_
  rintro e w3 ⟨rfl, hb3⟩
  have HJ3 := hid (HJ2.out.below hb3)
  have HB3 := hid (HB2.out.trans (hb3.mono HB2.out.size))
  clear hb3
  go_wp2_with fail
  refine Calls.mono (two_any w3) ?_
  rintro e w3b ⟨rfl, rfl⟩
  go_wp2_with fail
  refine Calls.mono (show Calls Tryz.prog 24 #[.pointer (some ⟨j, 0, none⟩), .int .u64 1, .slice (some ⟨w3.heap.size, 0, none⟩) 2 2] _ fun e W' => e = .returned (.int .i64 0) ∧ JnAfter w3 j p G alD2 alS2 W' from append_two HJ3.out alOk1 (by decide) 1 (by decide) (by decide) al2') ?_
  rintro e w4 ⟨rfl, ha4⟩
  obtain ⟨G4, k1, k2, k3⟩ := ha4
  have HJ4 := hid k1
  have HG4 : Hid (∀ b ∈ G4, W.heap.size ≤ b) := fun b hb => by
    rcases k2 b hb with h | h
    · exact HG2.out b h
    · exact Nat.le_trans HB3.out.size h
  have HB4 : Hid (Below W.heap.size W w4) := HB3.out.trans (k3.toBelow HB3.out.size HG2.out)
  clear k1 k2 k3
  go_wp2_with fail
  refine Calls.mono (two_any w4) ?_
  rintro e w4b ⟨rfl, rfl⟩
  go_wp2_with fail
  refine Calls.mono (show Calls Tryz.prog 24 #[.pointer (some ⟨j, 0, none⟩), .int .u64 4, .slice (some ⟨w4.heap.size, 0, none⟩) 2 2] _ fun e W' => e = .returned (.int .i64 1) ∧ JnAfter w4 j p G4 alD2 alS2 W' from append_two HJ4.out alOk2 (by decide) 4 (by decide) (by decide) al2b) ?_
  rintro e w5 ⟨rfl, ha5⟩
  obtain ⟨G5, k1, k2, k3⟩ := ha5
  have HJ5 := hid k1
  have HG5 : Hid (∀ b ∈ G5, W.heap.size ≤ b) := fun b hb => by
    rcases k2 b hb with h | h
    · exact HG4.out b h
    · exact Nat.le_trans HB4.out.size h
  have HB5 : Hid (Below W.heap.size W w5) := HB4.out.trans (k3.toBelow HB4.out.size HG4.out)
  clear k1 k2 k3
  go_wp2_with fail
  refine Calls.mono (show Calls Tryz.prog 26 #[.pointer (some ⟨j, 0, none⟩), .agg #[.int .u64 3, .int .i64 2, .int .u64 0]] w5 fun e W' => e = .returned (.int .i64 0) ∧ JnAfter w5 j p G5 alD3 alS3 W' from by
    have h := save_any HJ5.out alOk2 (by decide) 3 2 0 (by decide)
    rw [al3] at h
    exact h) ?_
  rintro e w6 ⟨rfl, ha6⟩
  obtain ⟨G6, k1, k2, k3⟩ := ha6
  have HJ6 := hid k1
  have HG6 : Hid (∀ b ∈ G6, W.heap.size ≤ b) := fun b hb => by
    rcases k2 b hb with h | h
    · exact HG5.out b h
    · exact Nat.le_trans HB5.out.size h
  have HB6 : Hid (Below W.heap.size W w6) := HB5.out.trans (k3.toBelow HB5.out.size HG5.out)
  clear k1 k2 k3
  obtain ⟨F6, d6, f6, _, _, _⟩ := HJ6.out.opened
  have HD6 := hid d6
  have HF6 : Hid (∀ b ∈ F6, W.heap.size ≤ b) := fun b hb => HG6.out b (f6 b hb)
  clear d6 f6
  go_wp2_with fail
  refine Calls.mono (open_journal HD6.out alOk3 (by decide)) ?_
  intro e w7 hp7
  rw [al4'] at hp7
  obtain ⟨k, G7, rfl, hj7, hg7, ht7, hl7⟩ := openPost_some hp7
  have HJ7 := hid hj7
  have HB7 : Hid (Below W.heap.size W w7) := HB6.out.trans (ht7.toBelow HB6.out.size HF6.out)
  clear hp7 hj7 hg7 ht7 hl7
  go_wp2_with fail
  refine Calls.mono (show Calls Tryz.prog 23 #[.pointer (some ⟨k, 0, none⟩)] w7 fun e W' => e = .returned (.agg #[.int .u64 3, .int .i64 2, .int .u64 2]) ∧ Below w7.heap.size w7 W' from jhard_any HJ7.out) ?_
  rintro e w8 ⟨rfl, hb8⟩
  have HJ8 := hid (HJ7.out.below hb8)
  have HB8 := hid (HB7.out.trans (hb8.mono HB7.out.size))
  clear hb8
  go_wp2_with fail
  refine Calls.mono (jlog_any HJ8.out) ?_
  rintro e w9 ⟨vc9, vl9, rfl, hr1, hr2, hb9⟩
  obtain ⟨ac9, cc9, rfl⟩ := own_form hr1
  obtain ⟨al9, cl9, rfl⟩ := own_form hr2
  have HJ9 := hid (HJ8.out.below hb9)
  have HB9 := hid (HB8.out.trans (hb9.mono HB8.out.size))
  have HC9 := hid (Cells.of_row (D := []) hr2 (by simp))
  clear hb9 hr1 hr2
  have hfl := field_log (.int .u64 (alS4.log.base : Nat)) (.int .u64 (alS4.log.bterm : Nat)) (.slice ac9 alS4.log.conf.length cc9) al9 alS4.log.l.length cl9
  go_wp2_with fail
  refine Calls.mono (two_any w9) ?_
  rintro e w10 ⟨rfl, rfl⟩
  have hb10 : Below w9.heap.size w9 (w9.alloc (.cells #[.int .u64 1, .int .i64 1, .string { data := #[] }, .int .u64 1, .int .i64 3, .string { data := #[120] }] 116)) := (Below.refl _ _).alloc (Nat.le_refl _) _
  go_wp2_with fail
  refine Calls.mono (sameEntries_eq (l := twoEn) (HC9.out.below hb10) (two_cells w9 [] (by simp)) (by decide)) ?_
  rintro e w11 ⟨rfl, hb11⟩
  have HJ11 := hid ((HJ9.out.below hb10).below hb11)
  have HB10 := hid (HB9.out.trans (hb10.mono HB9.out.size))
  have HB11 := hid (HB10.out.trans (hb11.mono HB10.out.size))
  clear hb10 hb11
  go_wp2_with fail
  refine Calls.mono (show Calls Tryz.prog 29 #[.pointer (some ⟨k, 0, none⟩)] w11 fun e W' => e = .returned (.string { data := #[] }) ∧ Below w11.heap.size w11 W' from jimage_any HJ11.out) ?_
  rintro e w12 ⟨rfl, hb12⟩
  have HB12 := hid (HB11.out.trans (hb12.mono HB11.out.size))
  clear hb12
  go_wp2_with fail
  go_ret
  exact ⟨rfl, HB12.out⟩
end Go.Proofs.YtmehcogaopackaaGreat
