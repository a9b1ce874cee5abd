/-
  The walk of JournalMemory. (Several texts in one.)
-/
import Derived.Test.YtmehcogaopackaaJState
import Derived.Test.YtmehcogaopackaaJFunc
import Derived.Test.YtmehcogaopackaaJAct
import Derived.Test.YtmehcogaopackaaJRun
/- The walks of the reference's SameInts, SameEntries, SameLogs, Same and of the law's same, where both sides hold the same. -/
namespace Go.Proofs.Ytmehcogaopackaa
open Go.RowKit
set_option linter.unusedVariables false
set_option linter.unusedSimpArgs false
theorem intVals_get (l : List Int) (q : Nat) (h : q < l.length) : (intVals l)[q]? = some (.int .i64 l[q]) := by simp [intVals, h]
set_option maxRecDepth 100000 in
set_option maxHeartbeats 4000000 in
theorem sameInts_eq {W : World} {v1 v2 : Value} {l : List Int} (h1 : Cells [] W v1 l.length (intVals l)) (h2 : Cells [] W v2 l.length (intVals l)) (hl : l.length ≤ 1000000) :
    Calls Try.prog 62 #[v1, v2] W fun e W' => e = .returned (.bool true) ∧ Below W.heap.size W W' := by
  obtain ⟨a1, k1, rfl⟩ := h1.form
  obtain ⟨a2, k2, rfl⟩ := h2.form
  obtain ⟨_, hc1, hx1⟩ := h1.at
  obtain ⟨_, hc2, hx2⟩ := h2.at
  have HX1 := hid hx1
  have HX2 := hid hx2
  clear hx1 hx2 h1 h2
  go_enter Try.func62, Try.ntmps62
  go_wp2_with fail
  go_loopw [5] (fun i wr => ∃ q : Nat, i = .int .i64 q ∧ q ≤ l.length ∧ Below W.heap.size W wr) (fun i _ => l.length - (intOf i).toNat)
  case atStart => exact ⟨0, rfl, Nat.zero_le _, Below.refl _ _⟩
  case round =>
    obtain ⟨q, rfl, hq, hb⟩ := hrel
    have HB := hid hb
    have HBD : Hid (Below W.heap.size W wr.drew) := hid hb.drew
    clear hb
    by_cases hlt : q < l.length
    · obtain ⟨b1, o1, rfl, hcell1⟩ := HX1.out (by rw [intVals_len]; omega)
      obtain ⟨b2, o2, rfl, hcell2⟩ := HX2.out (by rw [intVals_len]; omega)
      have e1 := hcell1 wr.drew HBD.out _ _ (intVals_get l q hlt)
      have e2 := hcell2 wr.drew HBD.out _ _ (intVals_get l q hlt)
      clear hcell1 hcell2
      generalize l[q] = n at *
      go_wp2_with fail
      go_region
      go_wp2_with fail
      go_roundw
      case rel => exact ⟨q + 1, by go_num, by omega, HBD.out⟩
      case measure => simp [intOf]; omega
    · obtain rfl : q = l.length := by omega
      go_wp2_with fail
      go_ret
      exact ⟨rfl, HB.out⟩
set_option maxRecDepth 100000 in
set_option maxHeartbeats 4000000 in
theorem sameEntries_eq {W : World} {v1 v2 : Value} {l : List En} (h1 : Cells [] W v1 l.length (enVals l)) (h2 : Cells [] W v2 l.length (enVals l)) (hl : l.length ≤ 1000000) :
    Calls Try.prog 19 #[v1, v2] W fun e W' => e = .returned (.bool true) ∧ Below W.heap.size W W' := by
  obtain ⟨a1, k1, rfl⟩ := h1.form
  obtain ⟨a2, k2, rfl⟩ := h2.form
  obtain ⟨_, hc1, hx1⟩ := h1.at
  obtain ⟨_, hc2, hx2⟩ := h2.at
  have HX1 := hid hx1
  have HX2 := hid hx2
  clear hx1 hx2 h1 h2
  go_enter Try.func19, Try.ntmps19
  go_wp2_with fail
  go_loopw [5] (fun i wr => ∃ q : Nat, i = .int .i64 q ∧ q ≤ l.length ∧ Below W.heap.size W wr) (fun i _ => l.length - (intOf i).toNat)
  case atStart => exact ⟨0, rfl, Nat.zero_le _, Below.refl _ _⟩
  case round =>
    obtain ⟨q, rfl, hq, hb⟩ := hrel
    have HB := hid hb
    have HBD : Hid (Below W.heap.size W wr.drew) := hid hb.drew
    clear hb
    by_cases hlt : q < l.length
    · obtain ⟨b1, o1, rfl, hcell1⟩ := HX1.out (by rw [enVals_len]; omega)
      obtain ⟨b2, o2, rfl, hcell2⟩ := HX2.out (by rw [enVals_len]; omega)
      have he := enVals_cell l q hlt
      have e10 := hcell1 wr.drew HBD.out _ _ he.1
      have e11 := hcell1 wr.drew HBD.out _ _ he.2.1
      have e12 := hcell1 wr.drew HBD.out _ _ he.2.2
      have e20 := hcell2 wr.drew HBD.out _ _ he.1
      have e21 := hcell2 wr.drew HBD.out _ _ he.2.1
      have e22 := hcell2 wr.drew HBD.out _ _ he.2.2
      have m1 : o1 + q * 3 = o1 + 3 * q := by omega
      have m2 : o2 + q * 3 = o2 + 3 * q := by omega
      have m11 : o1 + 3 * q + 1 = o1 + (3 * q + 1) := by omega
      have m12 : o1 + 3 * q + 2 = o1 + (3 * q + 2) := by omega
      have m21 : o2 + 3 * q + 1 = o2 + (3 * q + 1) := by omega
      have m22 : o2 + 3 * q + 2 = o2 + (3 * q + 2) := by omega
      clear hcell1 hcell2 he
      generalize l[q] = x at *
      go_wp2_with fail
      go_region
      go_wp2_with fail
      go_roundw
      case rel => exact ⟨q + 1, by go_num, by omega, HBD.out⟩
      case measure => simp [intOf]; omega
    · obtain rfl : q = l.length := by omega
      go_wp2_with fail
      go_ret
      exact ⟨rfl, HB.out⟩
/-- two boxes -/
theorem two_boxes (W : World) (t : TypeId) (x y : Array Value) : Below W.heap.size W ((W.alloc (.cells x t)).alloc (.cells y t)) ∧ ((W.alloc (.cells x t)).alloc (.cells y t)).heap[W.heap.size]? = some (.cells x t) ∧ ((W.alloc (.cells x t)).alloc (.cells y t)).heap[W.heap.size + 1]? = some (.cells y t) := by
  refine ⟨((Below.refl _ _).alloc (Nat.le_refl _) _).alloc (by simp) _, blk_below (heap_alloc_new W _) ((Below.refl _ _).alloc (Nat.le_refl _) _), ?_⟩
  have h := heap_alloc_new (W.alloc (.cells x t)) (.cells y t)
  rw [World.size_alloc] at h
  exact h
set_option maxRecDepth 100000 in
set_option maxHeartbeats 4000000 in
theorem sameLogs_eq {W : World} {base bterm : Nat} {vc1 vc2 vl1 vl2 : Value} {conf : List Int} {l : List En} (h1 : Cells [] W vc1 conf.length (intVals conf)) (h2 : Cells [] W vc2 conf.length (intVals conf)) (h3 : Cells [] W vl1 l.length (enVals l)) (h4 : Cells [] W vl2 l.length (enVals l)) (hc : conf.length ≤ 1000000) (hl : l.length ≤ 1000000) :
    Calls Try.prog 30 #[.agg #[.int .u64 base, .int .u64 bterm, vc1, vl1], .agg #[.int .u64 base, .int .u64 bterm, vc2, vl2]] W fun e W' => e = .returned (.bool true) ∧ Below W.heap.size W W' := by
  obtain ⟨a1, k1, rfl⟩ := h1.form
  obtain ⟨a2, k2, rfl⟩ := h2.form
  obtain ⟨a3, k3, rfl⟩ := h3.form
  obtain ⟨a4, k4, rfl⟩ := h4.form
  obtain ⟨hb, hk1, hk2⟩ := two_boxes W 29 #[.int .u64 base, .int .u64 bterm, .slice a1 conf.length k1, .slice a3 l.length k3] #[.int .u64 base, .int .u64 bterm, .slice a2 conf.length k2, .slice a4 l.length k4]
  have HB := hid hb
  have H1 := hid (h1.below hb)
  have H2 := hid (h2.below hb)
  have H3 := hid (h3.below hb)
  have H4 := hid (h4.below hb)
  have p0 := cell_in hk1 0 (.int .u64 base) rfl
  have p1 := cell_in hk1 1 (.int .u64 bterm) rfl
  have p2 := cell_in hk1 2 (.slice a1 conf.length k1) rfl
  have q0 := cell_in hk2 0 (.int .u64 base) rfl
  have q1 := cell_in hk2 1 (.int .u64 bterm) rfl
  have q2 := cell_in hk2 2 (.slice a2 conf.length k2) rfl
  have HK1 := hid hk1
  have HK2 := hid hk2
  clear hb hk1 hk2 h1 h2 h3 h4
  go_enter Try.func30, Try.ntmps30
  go_wp2_with fail
  generalize (W.alloc (.cells #[.int .u64 base, .int .u64 bterm, .slice a1 conf.length k1, .slice a3 l.length k3] 29)).alloc (.cells #[.int .u64 base, .int .u64 bterm, .slice a2 conf.length k2, .slice a4 l.length k4] 29) = W2 at *
  refine Calls.mono (sameInts_eq H1.out H2.out hc) ?_
  rintro e w3 ⟨rfl, hb3⟩
  have p3 := cell_in (blk_below HK1.out hb3) 3 (.slice a3 l.length k3) rfl
  have q3 := cell_in (blk_below HK2.out hb3) 3 (.slice a4 l.length k4) rfl
  have H33 := hid (H3.out.below hb3)
  have H43 := hid (H4.out.below hb3)
  have HB3 := hid (HB.out.trans (hb3.mono HB.out.size))
  clear hb3 p0 p1 p2 q0 q1 q2
  go_wp2_with fail
  refine Calls.mono (sameEntries_eq H33.out H43.out hl) ?_
  rintro e w4 ⟨rfl, hb4⟩
  have HB4 := hid (HB3.out.trans (hb4.mono HB3.out.size))
  clear hb4
  go_wp2_with fail
  go_ret
  exact ⟨rfl, HB4.out⟩
/-- two tellings that hold the same state -/
def Told (W : World) (S : Js) (v : Value) : Prop := ∃ vc vl, v = .agg (toldCells S vc vl) ∧ Cells [] W vc S.log.conf.length (intVals S.log.conf) ∧ Cells [] W vl S.log.l.length (enVals S.log.l)
set_option maxRecDepth 100000 in
set_option maxHeartbeats 4000000 in
theorem rsame_eq {W : World} {S : Js} {vc1 vc2 vl1 vl2 : Value} (h1 : Cells [] W vc1 S.log.conf.length (intVals S.log.conf)) (h2 : Cells [] W vc2 S.log.conf.length (intVals S.log.conf)) (h3 : Cells [] W vl1 S.log.l.length (enVals S.log.l)) (h4 : Cells [] W vl2 S.log.l.length (enVals S.log.l)) (hc : S.log.conf.length ≤ 1000000) (hl : S.log.l.length ≤ 1000000) :
    Calls Try.prog 7 #[.agg (toldCells S vc1 vl1), .agg (toldCells S vc2 vl2)] W fun e W' => e = .returned (.bool true) ∧ Below W.heap.size W W' := by
  obtain ⟨a1, k1, rfl⟩ := h1.form
  obtain ⟨a2, k2, rfl⟩ := h2.form
  obtain ⟨a3, k3, rfl⟩ := h3.form
  obtain ⟨a4, k4, rfl⟩ := h4.form
  obtain ⟨⟨t, v, lf⟩, ⟨base, bterm, conf, l⟩, image⟩ := S
  simp only at h1 h2 h3 h4 hc hl ⊢
  show Calls _ _ #[.agg #[.int .u64 t, .int .i64 v, .int .u64 lf, .int .u64 base, .int .u64 bterm, .slice a1 conf.length k1, .slice a3 l.length k3, .string (str image)], .agg #[.int .u64 t, .int .i64 v, .int .u64 lf, .int .u64 base, .int .u64 bterm, .slice a2 conf.length k2, .slice a4 l.length k4, .string (str image)]] _ _
  obtain ⟨hb, hk1, hk2⟩ := two_boxes W 40 #[.int .u64 t, .int .i64 v, .int .u64 lf, .int .u64 base, .int .u64 bterm, .slice a1 conf.length k1, .slice a3 l.length k3, .string (str image)] #[.int .u64 t, .int .i64 v, .int .u64 lf, .int .u64 base, .int .u64 bterm, .slice a2 conf.length k2, .slice a4 l.length k4, .string (str image)]
  have HB := hid hb
  have HL := hid (sameLogs_eq (base := base) (bterm := bterm) (h1.below hb) (h2.below hb) (h3.below hb) (h4.below hb) hc hl)
  have HK1 := hid hk1
  have HK2 := hid hk2
  have p0 := cell_in hk1 0 (.int .u64 t) rfl
  have p1 := cell_in hk1 1 (.int .i64 v) rfl
  have p2 := cell_in hk1 2 (.int .u64 lf) rfl
  have p3 := cell_in hk1 3 (.int .u64 base) rfl
  have p4 := cell_in hk1 4 (.int .u64 bterm) rfl
  have p5 := cell_in hk1 5 (.slice a1 conf.length k1) rfl
  have p6 := cell_in hk1 6 (.slice a3 l.length k3) rfl
  have q0 := cell_in hk2 0 (.int .u64 t) rfl
  have q1 := cell_in hk2 1 (.int .i64 v) rfl
  have q2 := cell_in hk2 2 (.int .u64 lf) rfl
  have q3 := cell_in hk2 3 (.int .u64 base) rfl
  have q4 := cell_in hk2 4 (.int .u64 bterm) rfl
  have q5 := cell_in hk2 5 (.slice a2 conf.length k2) rfl
  have q6 := cell_in hk2 6 (.slice a4 l.length k4) rfl
  clear hb hk1 hk2 h1 h2 h3 h4
  go_enter Try.func7, Try.ntmps7
  go_wp2_with fail
  generalize (W.alloc (.cells #[.int .u64 t, .int .i64 v, .int .u64 lf, .int .u64 base, .int .u64 bterm, .slice a1 conf.length k1, .slice a3 l.length k3, .string (str image)] 40)).alloc (.cells #[.int .u64 t, .int .i64 v, .int .u64 lf, .int .u64 base, .int .u64 bterm, .slice a2 conf.length k2, .slice a4 l.length k4, .string (str image)] 40) = W2 at *
  refine Calls.mono HL.out ?_
  rintro e w3 ⟨rfl, hb3⟩
  have p7 := cell_in (blk_below HK1.out hb3) 7 (.string (str image)) rfl
  have q7 := cell_in (blk_below HK2.out hb3) 7 (.string (str image)) rfl
  have HB3 := hid (HB.out.trans (hb3.mono HB.out.size))
  clear hb3 p0 p1 p2 p3 p4 p5 p6 q0 q1 q2 q3 q4 q5 q6
  go_wp2_with fail
  go_ret
  exact ⟨rfl, HB3.out⟩
set_option maxRecDepth 100000 in
set_option maxHeartbeats 8000000 in
theorem lsame_eq {W : World} {S : Js} {vc1 vc2 vl1 vl2 : Value} (h1 : Cells [] W vc1 S.log.conf.length (intVals S.log.conf)) (h2 : Cells [] W vc2 S.log.conf.length (intVals S.log.conf)) (h3 : Cells [] W vl1 S.log.l.length (enVals S.log.l)) (h4 : Cells [] W vl2 S.log.l.length (enVals S.log.l)) (hc : S.log.conf.length ≤ 1000000) (hl : S.log.l.length ≤ 1000000) :
    Calls Try.prog 17 #[.agg (toldCells S vc1 vl1), .agg (toldCells S vc2 vl2)] W fun e W' => e = .returned (.bool true) ∧ Below W.heap.size W W' := by
  have HS := hid (fun (W1 : World) (hb : Below W.heap.size W W1) => rsame_eq (h1.below hb) (h2.below hb) (h3.below hb) (h4.below hb) hc hl)
  obtain ⟨a1, k1, rfl⟩ := h1.form
  obtain ⟨a2, k2, rfl⟩ := h2.form
  obtain ⟨a3, k3, rfl⟩ := h3.form
  obtain ⟨a4, k4, rfl⟩ := h4.form
  obtain ⟨⟨t, v, lf⟩, ⟨base, bterm, conf, l⟩, image⟩ := S
  simp only at h1 h2 h3 h4 hc hl HS ⊢
  obtain ⟨_, hc3, hx3⟩ := h3.at
  obtain ⟨_, hc4, hx4⟩ := h4.at
  have HX3 := hid hx3
  have HX4 := hid hx4
  show Calls _ _ #[.agg #[.int .u64 t, .int .i64 v, .int .u64 lf, .int .u64 base, .int .u64 bterm, .slice a1 conf.length k1, .slice a3 l.length k3, .string (str image)], .agg #[.int .u64 t, .int .i64 v, .int .u64 lf, .int .u64 base, .int .u64 bterm, .slice a2 conf.length k2, .slice a4 l.length k4, .string (str image)]] _ _
  obtain ⟨hb, hk1, hk2⟩ := two_boxes W 40 #[.int .u64 t, .int .i64 v, .int .u64 lf, .int .u64 base, .int .u64 bterm, .slice a1 conf.length k1, .slice a3 l.length k3, .string (str image)] #[.int .u64 t, .int .i64 v, .int .u64 lf, .int .u64 base, .int .u64 bterm, .slice a2 conf.length k2, .slice a4 l.length k4, .string (str image)]
  have HB := hid hb
  have HK1 := hid hk1
  have HK2 := hid hk2
  clear hb hk1 hk2 h1 h2 h3 h4 hx3 hx4
  go_enter Try.func17, Try.ntmps17
  go_wp2_with fail
  generalize (W.alloc (.cells #[.int .u64 t, .int .i64 v, .int .u64 lf, .int .u64 base, .int .u64 bterm, .slice a1 conf.length k1, .slice a3 l.length k3, .string (str image)] 40)).alloc (.cells #[.int .u64 t, .int .i64 v, .int .u64 lf, .int .u64 base, .int .u64 bterm, .slice a2 conf.length k2, .slice a4 l.length k4, .string (str image)] 40) = W2 at *
  have p6 := cell_in HK1.out 6 (.slice a3 l.length k3) rfl
  have q6 := cell_in HK2.out 6 (.slice a4 l.length k4) rfl
  go_loopw [5] (fun i wr => ∃ q : Nat, i = .int .i64 q ∧ q ≤ l.length ∧ wr = W2) (fun i _ => l.length - (intOf i).toNat)
  case atStart => exact ⟨0, rfl, Nat.zero_le _, rfl⟩
  case round =>
    obtain ⟨q, rfl, hq, rfl⟩ := hrel
    by_cases hlt : q < l.length
    · obtain ⟨b3, o3, rfl, hcell3⟩ := HX3.out (by rw [enVals_len]; omega)
      obtain ⟨b4, o4, rfl, hcell4⟩ := HX4.out (by rw [enVals_len]; omega)
      have he := enVals_cell l q hlt
      have e3 := hcell3 wr HB.out _ _ he.1
      have e4 := hcell4 wr HB.out _ _ he.1
      have m3 : o3 + q * 3 = o3 + 3 * q := by omega
      have m4 : o4 + q * 3 = o4 + 3 * q := by omega
      clear hcell3 hcell4 he
      generalize l[q] = x at *
      by_cases h98 : (98 : Int) ≤ (x.term : Int)
      · have h98' : ¬ ((x.term : Int) < 98) := by omega
        go_wp2_with fail
        go_roundw
        case rel => exact ⟨q + 1, by go_num, by omega, trivial⟩
        case measure => simp [intOf]; omega
      · have h98' : (x.term : Int) < 98 := by omega
        go_wp2_with fail
        go_roundw
        case rel => exact ⟨q + 1, by go_num, by omega, trivial⟩
        case measure => simp [intOf]; omega
    · obtain rfl : q = l.length := by omega
      have p0 := cell_in HK1.out 0 (.int .u64 t) rfl
      have p1 := cell_in HK1.out 1 (.int .i64 v) rfl
      have p2 := cell_in HK1.out 2 (.int .u64 lf) rfl
      have p3 := cell_in HK1.out 3 (.int .u64 base) rfl
      have p4 := cell_in HK1.out 4 (.int .u64 bterm) rfl
      have p5 := cell_in HK1.out 5 (.slice a1 conf.length k1) rfl
      have p7 := cell_in HK1.out 7 (.string (str image)) rfl
      have q0 := cell_in HK2.out 0 (.int .u64 t) rfl
      have q1 := cell_in HK2.out 1 (.int .i64 v) rfl
      have q2 := cell_in HK2.out 2 (.int .u64 lf) rfl
      have q3 := cell_in HK2.out 3 (.int .u64 base) rfl
      have q4 := cell_in HK2.out 4 (.int .u64 bterm) rfl
      have q5 := cell_in HK2.out 5 (.slice a2 conf.length k2) rfl
      have q7 := cell_in HK2.out 7 (.string (str image)) rfl
      go_wp2_with fail
      refine Calls.mono (HS.out _ HB.out) ?_
      rintro e w3 ⟨rfl, hb3⟩
      have HB3 := hid (HB.out.trans (hb3.mono HB.out.size))
      clear hb3
      go_wp2_with fail
      go_ret
      exact ⟨rfl, HB3.out⟩
end Go.Proofs.Ytmehcogaopackaa
/- The walks of the law's few, great, two. -/
namespace Go.Proofs.Ytmehcogaopackaa
open Go.RowKit
set_option linter.unusedVariables false
set_option linter.unusedSimpArgs false
set_option maxHeartbeats 1000000 in
theorem few_any (n : Nat) (W : World) : Calls Try.prog 21 #[.int .i64 (n : Nat)] W fun e W' => e = .returned (.int .i64 ((min n 1048576 : Nat) : Int)) ∧ Below W.heap.size W W' := by
  have hm : min (n : Int) 1048576 = ((min n 1048576 : Nat) : Int) := by omega
  go_enter Try.func21, Try.ntmps21
  go_wp2_with fail
  go_ret
  exact ⟨by first | rfl | simp, Below.refl _ _⟩
/-- two entries -/
def twoEn : List En := [⟨1, 1, []⟩, ⟨1, 3, [120]⟩]
set_option maxRecDepth 100000 in
set_option maxHeartbeats 1000000 in
theorem two_any (W : World) : Calls Try.prog 16 #[] W fun e W' => e = .returned (.slice (some ⟨W.heap.size, 0, none⟩) 2 2) ∧ W' = W.alloc (.cells #[.int .u64 1, .int .i64 1, .string { data := #[] }, .int .u64 1, .int .i64 3, .string { data := #[120] }] 50) := by
  go_enter Try.func16, Try.ntmps16
  go_wp2_with fail
  go_ret
  exact ⟨rfl, rfl⟩
theorem two_cells (W : World) (G : List Nat) (hG : W.heap.size ∉ G) : Cells G (W.alloc (.cells #[.int .u64 1, .int .i64 1, .string { data := #[] }, .int .u64 1, .int .i64 3, .string { data := #[120] }] 50)) (.slice (some ⟨W.heap.size, 0, none⟩) 2 2) twoEn.length (enVals twoEn) := by
  refine ⟨some ⟨W.heap.size, 0, none⟩, 2, rfl, Nat.le_refl _, fun _ => ⟨W.heap.size, 0, rfl, hG, fun j hj => ?_⟩⟩
  rw [Nat.zero_add]
  refine cell_in (heap_alloc_new W _) j _ ?_
  have h6 : j < 6 := hj
  rcases (by omega : j = 0 ∨ j = 1 ∨ j = 2 ∨ j = 3 ∨ j = 4 ∨ j = 5) with rfl | rfl | rfl | rfl | rfl | rfl <;> rfl
/-- how much a call weighs -/
def fewData (l : List En) : Nat := (l.map fun e => min e.data.length 1048576).sum
def Ac.weight (a : Ac) : Nat := min a.image.length 1048576 + 40 * a.log.l.length + 10 * a.log.conf.length + fewData a.log.l
/-- a script that is not great -/
def ScriptOk (l : List Ac) : Prop := l.length ≤ 60 ∧ ∀ a ∈ l, a.log.l.length ≤ 1000 ∧ a.log.conf.length ≤ 1000 ∧ a.image.length ≤ 65536 ∧ ∀ e ∈ a.log.l, e.data.length ≤ 65536
theorem fewData_mem : ∀ (l : List En) (e : En), e ∈ l → min e.data.length 1048576 ≤ fewData l
  | a :: l, e, he => by
    unfold fewData
    rw [List.map_cons, List.sum_cons]
    rcases List.mem_cons.1 he with rfl | he
    · omega
    · have := fewData_mem l e he
      unfold fewData at this
      omega
theorem weight_mem : ∀ (l : List Ac) (a : Ac), a ∈ l → a.weight ≤ (l.map Ac.weight).sum
  | b :: l, a, ha => by
    rw [List.map_cons, List.sum_cons]
    rcases List.mem_cons.1 ha with rfl | ha
    · omega
    · have := weight_mem l a ha
      omega
theorem ScriptOk.of {l : List Ac} (h1 : l.length ≤ 60) (h2 : ∀ a ∈ l, a.log.l.length ≤ 1000 ∧ a.log.conf.length ≤ 1000) (h3 : (l.map Ac.weight).sum ≤ 65536) : ScriptOk l := by
  refine ⟨h1, fun a ha => ⟨(h2 a ha).1, (h2 a ha).2, ?_, fun e he => ?_⟩⟩
  · have h4 := weight_mem l a ha
    have h5 : a.weight = min a.image.length 1048576 + 40 * a.log.l.length + 10 * a.log.conf.length + fewData a.log.l := rfl
    omega
  · have h4 := weight_mem l a ha
    have h5 : a.weight = min a.image.length 1048576 + 40 * a.log.l.length + 10 * a.log.conf.length + fewData a.log.l := rfl
    have h6 := fewData_mem a.log.l e he
    omega
theorem fewData_le (l : List En) : fewData l ≤ 1048576 * l.length := by
  induction l with
  | nil => simp [fewData]
  | cons a l ih =>
    unfold fewData at *
    rw [List.map_cons, List.sum_cons, List.length_cons]
    omega
theorem fewData_snoc (l : List En) (k : Nat) (hk : k < l.length) : fewData (l.take (k + 1)) = fewData (l.take k) + min l[k].data.length 1048576 := by
  have ht : l.take (k + 1) = l.take k ++ [l[k]] := by rw [List.take_add_one, List.getElem?_eq_getElem hk]; rfl
  unfold fewData
  rw [ht, List.map_append, List.sum_append]
  simp
theorem weight_snoc (l : List Ac) (k : Nat) (hk : k < l.length) : ((l.take (k + 1)).map Ac.weight).sum = ((l.take k).map Ac.weight).sum + l[k].weight := by
  have ht : l.take (k + 1) = l.take k ++ [l[k]] := by rw [List.take_add_one, List.getElem?_eq_getElem hk]; rfl
  rw [ht, List.map_append, List.sum_append]
  simp
theorem weight_le {a : Ac} (h1 : a.log.l.length ≤ 1000) (h2 : a.log.conf.length ≤ 1000) : a.weight ≤ 1050000000 := by
  have := fewData_le a.log.l
  have : 1048576 * a.log.l.length ≤ 1048576 * 1000 := Nat.mul_le_mul_left _ h1
  unfold Ac.weight
  omega
theorem weights_le : ∀ (l : List Ac), (∀ a ∈ l, a.log.l.length ≤ 1000 ∧ a.log.conf.length ≤ 1000) → (l.map Ac.weight).sum ≤ 1050000000 * l.length
  | [], _ => by simp
  | a :: l, h => by
    have h1 := weights_le l (fun b hb => h b (List.mem_cons_of_mem _ hb))
    have h2 := weight_le (h a (List.mem_cons_self ..)).1 (h a (List.mem_cons_self ..)).2
    rw [List.map_cons, List.sum_cons, List.length_cons]
    omega
/-- how great ends -/
def GreatPost (l : List Ac) (W : World) (e : Ending) (W' : World) : Prop := ∃ g : Bool, e = .returned (.bool g) ∧ (g = false → ScriptOk l) ∧ Below W.heap.size W W'
/-- cells from a place on -/
def Sg (W : World) (b o : Nat) (xs : List Value) : Prop := ∀ k u, xs[k]? = some u → W.cell? ⟨b, o + k, none⟩ = some u
set_option maxRecDepth 100000 in
set_option maxHeartbeats 8000000 in
theorem great_any (l : List Ac) (v : Value) (W : World) (hv : AcsArg l v W) : Calls Try.prog 5 #[v] W fun e W' => GreatPost l W e W' := by
  obtain ⟨x, cap, rfl, hcap, hmax, hx⟩ := hv
  have HX := hid hx
  unfold maxLen at hmax
  clear hx
  by_cases hl : 60 < l.length
  · as_aux_lemma =>
    have hli : (60 : Int) < (l.length : Int) := by omega
    go_enter Try.func5, Try.ntmps5
    go_wp2_with fail
    go_ret
    exact ⟨true, rfl, (fun h => by cases h), Below.refl _ _⟩
  · have hli : ¬ ((60 : Int) < (l.length : Int)) := by omega
    go_enter Try.func5, Try.ntmps5
    go_wp2_with fail
    go_loopw [3, 4] (fun s i wr => ∃ q : Nat, i = .int .i64 q ∧ s = .int .i64 ((((l.take q).map Ac.weight).sum : Nat) : Int) ∧ q ≤ l.length ∧ Below W.heap.size W wr ∧ Hid (∀ a ∈ l.take q, a.log.l.length ≤ 1000 ∧ a.log.conf.length ≤ 1000)) (fun _ i _ => l.length - (intOf i).toNat)
    case atStart => exact ⟨0, rfl, rfl, Nat.zero_le _, Below.refl _ _, fun a ha => by simp at ha⟩
    case round =>
      obtain ⟨q, rfl, rfl, hq, hb, HA⟩ := hrel
      have HB := hid hb
      clear hb
      by_cases hlt : q < l.length
      · obtain ⟨b, off, rfl, hj⟩ := HX.out (by omega)
        obtain ⟨vc, vl, harg, hcell⟩ := hj q hlt
        have HS := hid (weight_snoc l q hlt)
        have HAM : Hid (∀ c ∈ l.take (q + 1), c ∈ l.take q ∨ c = l[q]) := hid (fun c hc => by
          have ht : l.take (q + 1) = l.take q ++ [l[q]] := by rw [List.take_add_one, List.getElem?_eq_getElem hlt]; rfl
          rw [ht] at hc
          rcases List.mem_append.1 hc with hc | hc
          · exact .inl hc
          · exact .inr (List.mem_singleton.1 hc))
        have hw := weights_le (l.take q) HA.out
        rw [List.length_take, Nat.min_eq_left hq] at hw
        obtain ⟨ac, cc, rfl⟩ := harg.1.form
        obtain ⟨al, cl, rfl⟩ := harg.2.1.form
        have hbl : b < W.heap.size := World.block_lt_of_cell? _ _ (hcell 0 _ rfl)
        have HCE : Hid (∀ W1 : World, Below W.heap.size W W1 → ∀ k u, (l[q].vals (.slice ac l[q].log.conf.length cc) (.slice al l[q].log.l.length cl))[k]? = some u → W1.cell? ⟨b, off + q * 11 + k, none⟩ = some u) := hid (fun W1 hb1 k u hu => (World.cell?_of_block (hb1.block b hbl)).trans (hcell k u hu))
        have HARG := hid harg
        have e8 := HCE.out wr HB.out 8 _ rfl
        have e9 := HCE.out wr HB.out 9 _ rfl
        have g8 : off + q * 11 + 6 + 2 = off + q * 11 + 8 := by omega
        have g9 : off + q * 11 + 6 + 3 = off + q * 11 + 9 := by omega
        generalize hN : ((l.take q).map Ac.weight).sum = N at *
        generalize hM : ((l.take (q + 1)).map Ac.weight).sum = M at *
        clear hj hcell harg
        generalize l[q] = a at *
        by_cases h1 : 1000 < a.log.l.length
        · as_aux_lemma =>
          have h1i : (1000 : Int) < (a.log.l.length : Int) := by omega
          go_wp2_with fail
          go_ret
          exact ⟨true, rfl, (fun h => by cases h), HB.out⟩
        · have h1i : ¬ ((1000 : Int) < (a.log.l.length : Int)) := by omega
          by_cases h2 : 1000 < a.log.conf.length
          · as_aux_lemma =>
            have h2i : (1000 : Int) < (a.log.conf.length : Int) := by omega
            go_wp2_with fail
            go_ret
            exact ⟨true, rfl, (fun h => by cases h), HB.out⟩
          · have h2i : ¬ ((1000 : Int) < (a.log.conf.length : Int)) := by omega
            go_upto_region 9 with fail
            have hd := fewData_le a.log.l
            have hdm : 1048576 * a.log.l.length ≤ 1048576 * 1000 := Nat.mul_le_mul_left _ (by omega)
            have HWT := hid (show a.weight = min a.image.length 1048576 + 40 * a.log.l.length + 10 * a.log.conf.length + fewData a.log.l from rfl)
            have hE0 : Sg wr.drew b (off + q * 11) (a.vals (.slice ac a.log.conf.length cc) (.slice al a.log.l.length cl)) := HCE.out wr HB.out
            have HCO : Hid (∀ W' : World, Sg W' b (off + q * 11) (a.vals (.slice ac a.log.conf.length cc) (.slice al a.log.l.length cl)) → W'.cell? ⟨b, off + q * 11 + 8, none⟩ = some (.slice ac a.log.conf.length cc) ∧ W'.cell? ⟨b, off + q * 11 + 9, none⟩ = some (.slice al a.log.l.length cl) ∧ W'.cell? ⟨b, off + q * 11 + 10, none⟩ = some (.string (str a.image))) := fun W' h => ⟨h 8 _ rfl, h 9 _ rfl, h 10 _ rfl⟩
            have hzi : (str a.image).size = a.image.length := str_size _
            clear e8 e9
            generalize hfw : min a.image.length 1048576 = fw at *
            go_region_held3 (fun W' => W'.cell? ⟨b, off + q * 11 + 8, none⟩ = some (.slice ac a.log.conf.length cc) ∧ W'.cell? ⟨b, off + q * 11 + 9, none⟩ = some (.slice al a.log.l.length cl) ∧ W'.cell? ⟨b, off + q * 11 + 10, none⟩ = some (.string (str a.image))) (exact HCO.out _ (by assumption))
              ((go_at_call 21; refine Calls.mono (few_any a.image.length _) ?_; rintro e w2 ⟨rfl, hb2⟩; have hB2 : Below W.heap.size W w2 := HB.out.trans ((⟨hb2.os, hb2.tape, hb2.output, hb2.size, hb2.block⟩ : Below wr.heap.size wr w2).mono HB.out.size); have hE2 : Sg w2 b (off + q * 11) (a.vals (.slice ac a.log.conf.length cc) (.slice al a.log.l.length cl)) := HCE.out w2 hB2))
            have hwr : IntKind.i64.wrap (IntKind.i64.wrap (IntKind.i64.wrap ((N : Int) + (fw : Int)) + IntKind.i64.wrap (40 * (a.log.l.length : Int))) + IntKind.i64.wrap (10 * (a.log.conf.length : Int))) = ((N + fw + 40 * a.log.l.length + 10 * a.log.conf.length : Nat) : Int) := by
              have hfl : fw ≤ 1048576 := by omega
              rw [IntWalk.i64_in ((N : Int) + (fw : Int)) (by omega), IntWalk.i64_in (40 * (a.log.l.length : Int)) (by omega), IntWalk.i64_in (10 * (a.log.conf.length : Int)) (by omega), IntWalk.i64_in (((N : Int) + (fw : Int)) + 40 * (a.log.l.length : Int)) (by omega), IntWalk.i64_in _ (by omega)]
              omega
            rw [hwr]
            have hfl : fw ≤ 1048576 := by omega
            generalize hbase : N + fw + 40 * a.log.l.length + 10 * a.log.conf.length = bs at *
            have hbs : bs ≤ 64000000000 := by omega
            have HB2 := hid hB2
            have HEL := hid (HARG.out.2.1.at).2.2
            clear hE0 hE2 hb2 hwr hB2
            go_wp2_with fail
            go_loopw [3, 5] (fun s3 i wi => ∃ k : Nat, i = .int .i64 k ∧ s3 = .int .i64 ((bs + fewData (a.log.l.take k) : Nat) : Int) ∧ k ≤ a.log.l.length ∧ Below W.heap.size W wi) (fun _ i _ => a.log.l.length - (intOf i).toNat)
            case atStart => exact ⟨0, rfl, by simp [fewData], Nat.zero_le _, HB2.out⟩
            case round =>
              obtain ⟨k, rfl, rfl, hk, hbi⟩ := hrel
              have HBI := hid hbi
              have e9 := HCE.out wr hbi 9 _ rfl
              have g9 : off + q * 11 + 6 + 3 = off + q * 11 + 9 := by omega
              have hdk := fewData_le (a.log.l.take k)
              have hdk2 : 1048576 * (a.log.l.take k).length ≤ 1048576 * 1000 := Nat.mul_le_mul_left _ (by rw [List.length_take]; omega)
              clear hbi
              by_cases hkt : k < a.log.l.length
              · as_aux_lemma =>
                obtain ⟨b1, o1, rfl, hec⟩ := HEL.out (by rw [enVals_len]; omega)
                have hd2 := hec wr HBI.out _ _ (enVals_cell a.log.l k hkt).2.2
                have HFS := hid (fewData_snoc a.log.l k hkt)
                have m1 : o1 + k * 3 = o1 + 3 * k := by omega
                have m2 : o1 + 3 * k + 2 = o1 + (3 * k + 2) := by omega
                clear hec
                generalize a.log.l[k] = ent at *
                generalize fewData (a.log.l.take k) = fd at *
                have hzd : (str ent.data).size = ent.data.length := str_size _
                go_wp2_with fail
                refine Calls.mono (few_any ent.data.length _) ?_
                rintro e w3 ⟨rfl, hb3⟩
                have HB3 := hid (HBI.out.trans (hb3.mono HBI.out.size))
                have hfm : min ent.data.length 1048576 ≤ 1048576 := Nat.min_le_right _ _
                generalize min ent.data.length 1048576 = fe at *
                have hws : IntKind.i64.wrap (((bs + fd : Nat) : Int) + (fe : Int)) = ((bs + (fd + fe) : Nat) : Int) := by rw [IntWalk.i64_in _ (by omega)]; omega
                clear hb3
                go_wp2_with fail
                go_roundw
                case rel => exact ⟨k + 1, by go_num, by rw [HFS.out]; go_num, by omega, HB3.out⟩
                case measure => simp [intOf]; omega
              · obtain rfl : k = a.log.l.length := by omega
                rw [List.take_length] at *
                have HSM := hid (show M = bs + fewData a.log.l by rw [HS.out, HWT.out]; omega)
                have HAM2 : Hid (∀ c ∈ l.take (q + 1), c.log.l.length ≤ 1000 ∧ c.log.conf.length ≤ 1000) := hid (fun c hc => by
                  rcases HAM.out c hc with h | rfl
                  · exact HA.out c h
                  · exact ⟨by omega, by omega⟩)
                go_wp2_with fail
                exact ⟨⟨q + 1, by go_num, by rw [hM, HSM.out], by omega, HBI.out, HAM2.out⟩, by simp [intOf]; omega⟩
      · obtain rfl : q = l.length := by omega
        rw [List.take_length] at *
        have hw := weights_le l HA.out
        generalize hN : (l.map Ac.weight).sum = N at *
        go_wp2_with fail
        go_ret
        refine ⟨_, rfl, fun h => ScriptOk.of (by omega) HA.out ?_, HB.out⟩
        rw [hN]
        have h9 := of_decide_eq_false h
        omega
end Go.Proofs.Ytmehcogaopackaa
/- The law's alive. -/
namespace Go.Proofs.Ytmehcogaopackaa
open Go.RowKit
set_option linter.unusedVariables false
set_option linter.unusedSimpArgs false
def alD0 : Ds := Ds.new 1000
def alS1 : Js := ⟨⟨0, 0, 1⟩, ⟨0, 0, [], []⟩, []⟩
def alS2 : Js := ⟨⟨0, 0, 1⟩, ⟨0, 0, [], twoEn⟩, []⟩
def alS3 : Js := ⟨⟨3, 2, 1⟩, ⟨0, 0, [], twoEn⟩, []⟩
def alS4 : Js := ⟨⟨3, 2, 2⟩, ⟨0, 0, [], twoEn⟩, []⟩
def alD1 : Ds := (jOpen alD0).1
def alD2 : Ds := (jAppend alD1 alS1 1 twoEn).1
def alD3 : Ds := (Ds.sync' (alD2.add (hardRec ⟨3, 2, 1⟩))).1
theorem al1 : (jOpen alD0).2 = (some alS1, 0) := by kernel_rfl
theorem al2 : (jAppend alD1 alS1 1 twoEn).2 = (alS2, 0) := by kernel_rfl
theorem al2b : jAppend alD2 alS2 4 twoEn = (alD2, alS2, 1) := by kernel_rfl
theorem al3a : (Ds.sync' (alD2.add (hardRec ⟨3, 2, 1⟩))).2 = 0 := by kernel_rfl
theorem al3 : jSave alD2 alS2 ⟨3, 2, 0⟩ = (alD3, alS3, 0) := by
  have h1 : ¬ ((2 : Int) < 0 ∨ (5 : Int) < 2) := by decide
  have h2 : ¬ ((⟨3, 2, alS2.hard.life⟩ : Hd) = alS2.hard) := by
    intro h
    have : (3 : Nat) = 0 := congrArg Hd.term h
    cases this
  unfold jSave
  rw [if_neg h1, if_neg h2]
  exact if_neg (by rw [show alS2.hard.life = 1 from rfl, al3a]; simp)
theorem al4 : (jOpen alD3).2 = (some alS4, 0) := by kernel_rfl
theorem dsnew_ok (c : Nat) (hc : c ≤ 1048576) : (Ds.new c).Ok 0 := ⟨⟨hc, Nat.zero_le _, Nat.zero_le _, by show (-9223372036854775808 : Int) ≤ 0; omega, by show (0 : Int) ≤ 9223372036854775807; omega⟩, Nat.le_refl _⟩
theorem trip {β : Type} {r : Ds × β} {x : β} (h : r.2 = x) : r = (r.1, x) := by rw [← h]
theorem al1' : jOpen alD0 = (alD1, some alS1, 0) := by unfold alD1; exact trip al1
theorem al2' : jAppend alD1 alS1 1 twoEn = (alD2, alS2, 0) := by unfold alD2; exact trip al2
theorem al4' : jOpen alD3 = ((jOpen alD3).1, some alS4, 0) := trip al4
theorem openPost_some {W : World} {p : Nat} {F : List Nat} {d : Ds} {S : Js} {n : Nat} {e : Ending} {W' : World} (h : OpenPost W p F (d, some S, n) e W') : ∃ j G, e = .returned (.tuple #[.pointer (some ⟨j, 0, none⟩), .int .i64 0]) ∧ JnAt W' j p G d S ∧ (∀ b ∈ G, b ∈ F ∨ W.heap.size ≤ b) ∧ Turn F W W' ∧ W.heap.size ≤ j := h
theorem twoEn_fit : ∀ e ∈ twoEn, e.term < top64 ∧ e.data.length ≤ 1048576 := by
  intro e he
  simp only [twoEn, List.mem_cons, List.not_mem_nil, or_false] at he
  rcases he with rfl | rfl <;> exact ⟨by decide, by decide⟩
theorem alOk1 : alD1.Ok 3 := by unfold alD1; exact jOpen_ok (dsnew_ok 1000 (by decide))
theorem alOk2 : alD2.Ok 4 := by unfold alD2; exact (jAppend_ok (S := alS1) alOk1 1 twoEn).1
theorem alOk3 : alD3.Ok 5 := by
  have h := (jSave_ok (S := alS2) alOk2 ⟨3, 2, 0⟩).1
  rw [al3] at h
  simp only at h
  exact h
theorem JnAt.sizeNot {W : World} {j p : Nat} {G : List Nat} {d : Ds} {S : Js} (h : JnAt W j p G d S) : W.heap.size ∉ G := fun hm => by have := h.lt _ hm; omega
set_option maxRecDepth 100000 in
/-- Append of the two entries -/
theorem append_two {W : World} {j p : Nat} {G : List Nat} {d d' : Ds} {S S' : Js} {c : Nat} (h : JnAt W j p G d S) {n : Nat} (hok : d.Ok n) (hn : n ≤ 900000) (fr : Nat) (hfr : fr < top64) (hsl : S.log.l.length ≤ 900000) (hA : jAppend d S fr twoEn = (d', S', c)) :
    Calls Try.prog 10 #[.pointer (some ⟨j, 0, none⟩), .int .u64 fr, .slice (some ⟨W.heap.size, 0, none⟩) 2 2] (W.alloc (.cells #[.int .u64 1, .int .i64 1, .string { data := #[] }, .int .u64 1, .int .i64 3, .string { data := #[120] }] 50)) fun e W' => e = .returned (.int .i64 (c : Nat)) ∧ JnAfter W j p G d' S' W' := by
  have hb : Below W.heap.size W (W.alloc (.cells #[.int .u64 1, .int .i64 1, .string { data := #[] }, .int .u64 1, .int .i64 3, .string { data := #[120] }] 50)) := (Below.refl _ _).alloc (Nat.le_refl _) _
  refine (append_any (h.below hb) hok hn fr twoEn _ hfr (two_cells W G h.sizeNot) (by decide) hsl twoEn_fit).mono ?_
  rintro e W' ⟨he, ha⟩
  rw [hA] at he ha
  exact ⟨he, JnAfter.trans (Turn.below hb) (fun _ h => .inl h) ha⟩
theorem field_log (a b c : Value) (x : Option Addr) (n k : Nat) (w : World) : (Instr.field 29 (.agg #[a, b, c, .slice x n k]) 3).run Try.prog w = .ok (.slice x n k) w := by
  simp [go_sem, Instr.field, Try.underlying29, Try.underlying27]
  rfl
set_option maxRecDepth 100000 in
set_option maxHeartbeats 8000000 in
theorem alive_any (W : World) : Calls Try.prog 4 #[] W fun e W' => e = .returned (.bool true) ∧ Below W.heap.size W W' := by
  go_enter Try.func4, Try.ntmps4
  go_wp2_with fail
  refine Calls.mono (show Calls Try.prog 12 #[.int .i64 1000] W _ from dnew_any 1000 (by decide) W) ?_
  rintro e w1 ⟨p, F, rfl, hd1, hf1, hb1⟩
  have HD1 := hid hd1
  have HB1 := hid hb1
  have HF1 := hid hf1
  clear hd1 hb1 hf1
  go_wp2_with fail
  refine Calls.mono (open_journal HD1.out (dsnew_ok 1000 (by decide)) (by decide)) ?_
  intro e w2 hp2
  rw [show Ds.new 1000 = alD0 from rfl, al1'] at hp2
  obtain ⟨j, G, rfl, hj2, hg2, ht2, hl2⟩ := openPost_some hp2
  have HJ2 := hid hj2
  have HG2 : Hid (∀ b ∈ G, W.heap.size ≤ b) := fun b hb => by
    rcases hg2 b hb with h | h
    · exact HF1.out b h
    · exact Nat.le_trans HB1.out.size h
  have HB2 : Hid (Below W.heap.size W w2) := HB1.out.trans (ht2.toBelow HB1.out.size HF1.out)
  clear hp2 hj2 hg2 ht2 hl2
  go_wp2_with fail
  refine Calls.mono (show Calls Try.prog 18 #[.pointer (some ⟨j, 0, none⟩)] w2 fun e W' => e = .returned (.agg #[.int .u64 0, .int .i64 0, .int .u64 1]) ∧ Below w2.heap.size w2 W' from jhard_any HJ2.out) ?_
  rintro e w3 ⟨rfl, hb3⟩
  have HJ3 := hid (HJ2.out.below hb3)
  have HB3 := hid (HB2.out.trans (hb3.mono HB2.out.size))
  clear hb3
  go_wp2_with fail
  refine Calls.mono (two_any w3) ?_
  rintro e w3b ⟨rfl, rfl⟩
  go_wp2_with fail
  refine Calls.mono (show Calls Try.prog 10 #[.pointer (some ⟨j, 0, none⟩), .int .u64 1, .slice (some ⟨w3.heap.size, 0, none⟩) 2 2] _ fun e W' => e = .returned (.int .i64 0) ∧ JnAfter w3 j p G alD2 alS2 W' from append_two HJ3.out alOk1 (by decide) 1 (by decide) (by decide) al2') ?_
  rintro e w4 ⟨rfl, ha4⟩
  obtain ⟨G4, k1, k2, k3⟩ := ha4
  have HJ4 := hid k1
  have HG4 : Hid (∀ b ∈ G4, W.heap.size ≤ b) := fun b hb => by
    rcases k2 b hb with h | h
    · exact HG2.out b h
    · exact Nat.le_trans HB3.out.size h
  have HB4 : Hid (Below W.heap.size W w4) := HB3.out.trans (k3.toBelow HB3.out.size HG2.out)
  clear k1 k2 k3
  go_wp2_with fail
  refine Calls.mono (two_any w4) ?_
  rintro e w4b ⟨rfl, rfl⟩
  go_wp2_with fail
  refine Calls.mono (show Calls Try.prog 10 #[.pointer (some ⟨j, 0, none⟩), .int .u64 4, .slice (some ⟨w4.heap.size, 0, none⟩) 2 2] _ fun e W' => e = .returned (.int .i64 1) ∧ JnAfter w4 j p G4 alD2 alS2 W' from append_two HJ4.out alOk2 (by decide) 4 (by decide) (by decide) al2b) ?_
  rintro e w5 ⟨rfl, ha5⟩
  obtain ⟨G5, k1, k2, k3⟩ := ha5
  have HJ5 := hid k1
  have HG5 : Hid (∀ b ∈ G5, W.heap.size ≤ b) := fun b hb => by
    rcases k2 b hb with h | h
    · exact HG4.out b h
    · exact Nat.le_trans HB4.out.size h
  have HB5 : Hid (Below W.heap.size W w5) := HB4.out.trans (k3.toBelow HB4.out.size HG4.out)
  clear k1 k2 k3
  go_wp2_with fail
  refine Calls.mono (show Calls Try.prog 9 #[.pointer (some ⟨j, 0, none⟩), .agg #[.int .u64 3, .int .i64 2, .int .u64 0]] w5 fun e W' => e = .returned (.int .i64 0) ∧ JnAfter w5 j p G5 alD3 alS3 W' from by
    have h := save_any HJ5.out alOk2 (by decide) 3 2 0 (by decide)
    rw [al3] at h
    exact h) ?_
  rintro e w6 ⟨rfl, ha6⟩
  obtain ⟨G6, k1, k2, k3⟩ := ha6
  have HJ6 := hid k1
  have HG6 : Hid (∀ b ∈ G6, W.heap.size ≤ b) := fun b hb => by
    rcases k2 b hb with h | h
    · exact HG5.out b h
    · exact Nat.le_trans HB5.out.size h
  have HB6 : Hid (Below W.heap.size W w6) := HB5.out.trans (k3.toBelow HB5.out.size HG5.out)
  clear k1 k2 k3
  obtain ⟨F6, d6, f6, _, _, _⟩ := HJ6.out.opened
  have HD6 := hid d6
  have HF6 : Hid (∀ b ∈ F6, W.heap.size ≤ b) := fun b hb => HG6.out b (f6 b hb)
  clear d6 f6
  go_wp2_with fail
  refine Calls.mono (open_journal HD6.out alOk3 (by decide)) ?_
  intro e w7 hp7
  rw [al4'] at hp7
  obtain ⟨k, G7, rfl, hj7, hg7, ht7, hl7⟩ := openPost_some hp7
  have HJ7 := hid hj7
  have HB7 : Hid (Below W.heap.size W w7) := HB6.out.trans (ht7.toBelow HB6.out.size HF6.out)
  clear hp7 hj7 hg7 ht7 hl7
  go_wp2_with fail
  refine Calls.mono (show Calls Try.prog 18 #[.pointer (some ⟨k, 0, none⟩)] w7 fun e W' => e = .returned (.agg #[.int .u64 3, .int .i64 2, .int .u64 2]) ∧ Below w7.heap.size w7 W' from jhard_any HJ7.out) ?_
  rintro e w8 ⟨rfl, hb8⟩
  have HJ8 := hid (HJ7.out.below hb8)
  have HB8 := hid (HB7.out.trans (hb8.mono HB7.out.size))
  clear hb8
  go_wp2_with fail
  refine Calls.mono (jlog_any HJ8.out) ?_
  rintro e w9 ⟨vc9, vl9, rfl, hr1, hr2, hb9⟩
  obtain ⟨ac9, cc9, rfl⟩ := own_form hr1
  obtain ⟨al9, cl9, rfl⟩ := own_form hr2
  have HJ9 := hid (HJ8.out.below hb9)
  have HB9 := hid (HB8.out.trans (hb9.mono HB8.out.size))
  have HC9 := hid (Cells.of_row (D := []) hr2 (by simp))
  clear hb9 hr1 hr2
  have hfl := field_log (.int .u64 (alS4.log.base : Nat)) (.int .u64 (alS4.log.bterm : Nat)) (.slice ac9 alS4.log.conf.length cc9) al9 alS4.log.l.length cl9
  go_wp2_with fail
  refine Calls.mono (two_any w9) ?_
  rintro e w10 ⟨rfl, rfl⟩
  have hb10 : Below w9.heap.size w9 (w9.alloc (.cells #[.int .u64 1, .int .i64 1, .string { data := #[] }, .int .u64 1, .int .i64 3, .string { data := #[120] }] 50)) := (Below.refl _ _).alloc (Nat.le_refl _) _
  go_wp2_with fail
  refine Calls.mono (sameEntries_eq (l := twoEn) (HC9.out.below hb10) (two_cells w9 [] (by simp)) (by decide)) ?_
  rintro e w11 ⟨rfl, hb11⟩
  have HJ11 := hid ((HJ9.out.below hb10).below hb11)
  have HB10 := hid (HB9.out.trans (hb10.mono HB9.out.size))
  have HB11 := hid (HB10.out.trans (hb11.mono HB10.out.size))
  clear hb10 hb11
  go_wp2_with fail
  refine Calls.mono (show Calls Try.prog 20 #[.pointer (some ⟨k, 0, none⟩)] w11 fun e W' => e = .returned (.string { data := #[] }) ∧ Below w11.heap.size w11 W' from jimage_any HJ11.out) ?_
  rintro e w12 ⟨rfl, hb12⟩
  have HB12 := hid (HB11.out.trans (hb12.mono HB11.out.size))
  clear hb12
  go_wp2_with fail
  go_ret
  exact ⟨rfl, HB12.out⟩
end Go.Proofs.Ytmehcogaopackaa
/- What JournalMemory's walk keeps while blocks are written over: the journal, and what it has told. -/
namespace Go.Proofs.Ytmehcogaopackaa
open Go.RowKit
set_option linter.unusedVariables false
set_option linter.unusedSimpArgs false
/-- a block of at least m cells -/
def Wr (g : Nat) (e : TypeId) (m : Nat) (w : World) : Prop := ∃ cs, w.heap[g]? = some (.cells cs e) ∧ m ≤ cs.size
theorem Wr.set {g : Nat} {e : TypeId} {m : Nat} {w : World} (h : Wr g e m w) (o : Nat) (v : Value) : Wr g e m (w.setCell ⟨g, o, none⟩ v) := by
  obtain ⟨cs, h1, h2⟩ := h
  exact ⟨_, heap_set h1 o v, by simpa using h2⟩
theorem Wr.cell {g : Nat} {e : TypeId} {m : Nat} {w : World} (h : Wr g e m w) (k : Nat) (hk : k < m) : ∃ u, w.cell? ⟨g, k, none⟩ = some u ∧ w.frozen? ⟨g, k, none⟩ = false := by
  obtain ⟨cs, h1, h2⟩ := h
  exact ⟨cs[k]'(by omega), cell_in h1 k _ (Array.getElem?_eq_getElem (by omega)), free_in h1 k⟩
theorem own_cells {w : World} {B : Nat} {e : TypeId} {s : Nat} {a : Option Addr} {n c : Nat} {xs : List Value} (h : w.ownsRow B e s (.slice a n c) n xs) (hn : 0 < n) : ∃ g z, a = some ⟨g, z, none⟩ ∧ z = 0 ∧ B ≤ g ∧ Wr g e (n * s) w := by
  rcases h.2 with ⟨h1, h2⟩ | ⟨g, cap, cur, h1, h2, h3, h4, h5, h6, h7⟩
  · omega
  · cases h1
    refine ⟨g, 0, rfl, rfl, h2, cur, h3, ?_⟩
    rw [h6]
    exact Nat.mul_le_mul_right _ h4
/-- the journal in blocks G; what it has told, whose box is bk: beside the blocks D -/
def Kp (B : Nat) (W0 : World) (j p bk : Nat) (G D : List Nat) (d : Ds) (S : Js) (vc vl : Value) (w : World) : Prop :=
  JnAt w j p G d S ∧ w.heap[bk]? = some (.cells (toldCells S vc vl) 40) ∧ Cells (D ++ G) w vc S.log.conf.length (intVals S.log.conf) ∧ Cells (D ++ G) w vl S.log.l.length (enVals S.log.l) ∧ Below B W0 w ∧ B ≤ W0.heap.size ∧ bk ∉ D ∧ bk ∉ G ∧ (∀ b ∈ D, b ∉ G) ∧ (∀ b ∈ D, B ≤ b) ∧ (∀ b ∈ G, B ≤ b)
theorem Kp.turn {B : Nat} {W0 : World} {j p bk : Nat} {G D : List Nat} {d : Ds} {S : Js} {vc vl : Value} {w w' : World} (h : Kp B W0 j p bk G D d S vc vl w) (t : Turn D w w') : Kp B W0 j p bk G D d S vc vl w' := by
  obtain ⟨h1, h2, h3, h4, h5, h5', h6, h7, h8, h9, h10⟩ := h
  have t2 : Turn (D ++ G) w w' := t.mono fun b hb => by simp [hb]
  exact ⟨h1.turn t h8, (t.block (Array.getElem?_eq_some_iff.1 h2).1 h6).trans h2, h3.after t2 (fun b hb => .inl hb), h4.after t2 (fun b hb => .inl hb), h5.trans (t.toBelow (Nat.le_trans h5' h5.size) h9), h5', h6, h7, h8, h9, h10⟩
theorem Kp.done {B : Nat} {W0 : World} {j p bk : Nat} {G D : List Nat} {d : Ds} {S : Js} {vc vl : Value} {w : World} (h : Kp B W0 j p bk G D d S vc vl w) : Kp B W0 j p bk G [] d S vc vl w := by
  obtain ⟨h1, h2, h3, h4, h5, h5', h6, h7, h8, h9, h10⟩ := h
  exact ⟨h1, h2, h3.sub (fun b hb => by simp at hb; simp [hb]), h4.sub (fun b hb => by simp at hb; simp [hb]), h5, h5', by simp, h7, by simp, by simp, h10⟩
theorem Kp.step {B : Nat} {W0 : World} {j p bk : Nat} {G : List Nat} {d d' : Ds} {S : Js} {vc vl : Value} {w w' : World} (h : Kp B W0 j p bk G [] d S vc vl w) (ha : JnAfter w j p G d' S w') : ∃ G', Kp B W0 j p bk G' [] d' S vc vl w' := by
  obtain ⟨h1, h2, h3, h4, h5, h5', h6, h7, h8, h9, h10⟩ := h
  obtain ⟨G', k1, k2, k3⟩ := ha
  have hlt := (Array.getElem?_eq_some_iff.1 h2).1
  refine ⟨G', k1, (k3.block hlt h7).trans h2, ?_, ?_, h5.trans (k3.toBelow (Nat.le_trans h5' h5.size) h10), h5', by simp, fun hm => ?_, by simp, by simp, fun b hb => ?_⟩
  · exact h3.after (G := [] ++ G) k3 k2
  · exact h4.after (G := [] ++ G) k3 k2
  · rcases k2 bk hm with h | h
    · exact h7 h
    · omega
  · rcases k2 b hb with h | h
    · exact h10 b h
    · exact Nat.le_trans (Nat.le_trans h5' h5.size) h
theorem Kp.below {B : Nat} {W0 : World} {j p bk : Nat} {G D : List Nat} {d : Ds} {S : Js} {vc vl : Value} {w w' : World} (h : Kp B W0 j p bk G D d S vc vl w) (hb : Below w.heap.size w w') : Kp B W0 j p bk G D d S vc vl w' := h.turn ((Turn.below (F := []) hb).mono (by simp))
theorem Kp.jn {B : Nat} {W0 : World} {j p bk : Nat} {G D : List Nat} {d : Ds} {S : Js} {vc vl : Value} {w : World} (h : Kp B W0 j p bk G D d S vc vl w) : JnAt w j p G d S := h.1
theorem Kp.box {B : Nat} {W0 : World} {j p bk : Nat} {G D : List Nat} {d : Ds} {S : Js} {vc vl : Value} {w : World} (h : Kp B W0 j p bk G D d S vc vl w) : w.heap[bk]? = some (.cells (toldCells S vc vl) 40) := h.2.1
theorem Kp.low {B : Nat} {W0 : World} {j p bk : Nat} {G D : List Nat} {d : Ds} {S : Js} {vc vl : Value} {w : World} (h : Kp B W0 j p bk G D d S vc vl w) : Below B W0 w := h.2.2.2.2.1
/-- the box of what was told -/
def BxAt (bk : Nat) (cs : Array Value) (W : World) : Prop := W.heap[bk]? = some (.cells cs 40)
theorem BxAt.below {bk : Nat} {cs : Array Value} {W W' : World} (h : BxAt bk cs W) (hb : Below W.heap.size W W') : BxAt bk cs W' := blk_below h hb
theorem BxAt.alloc {bk : Nat} {cs : Array Value} {W : World} (h : BxAt bk cs W) (o : Obj) : BxAt bk cs (W.alloc o) := blk_below h ((Below.refl _ _).alloc (Nat.le_refl _) _)
theorem two_rebase {d : Ds} {S : Js} : jRebase d S ⟨0, 0, [2, 1], []⟩ [] = (d, S, 1) := by
  unfold jRebase
  rw [if_pos (by unfold logBad; decide)]
theorem intCells (W : World) (a b : Int) : Cells [] (W.alloc (.cells #[.int .i64 a, .int .i64 b] 3)) (.slice (some ⟨W.heap.size, 0, none⟩) 2 2) [a, b].length (intVals [a, b]) := by
  refine ⟨some ⟨W.heap.size, 0, none⟩, 2, rfl, Nat.le_refl _, fun _ => ⟨W.heap.size, 0, rfl, by simp, fun j hj => ?_⟩⟩
  rw [Nat.zero_add]
  refine cell_in (heap_alloc_new W _) j _ ?_
  have h2 : j < 2 := hj
  rcases (by omega : j = 0 ∨ j = 1) with rfl | rfl <;> rfl
/-- a journal whose disk's power is gone adds nothing -/
theorem off_add {d : Ds} (s : Bytes) (h : d.off = true) : d.add s = (d, 8) := by
  have hm : ∀ n : Int, d.may n = 8 := fun n => by unfold Ds.may; rw [if_pos h]
  unfold Ds.add
  rw [hm, if_pos (by simp)]
theorem off_append {d : Ds} {S : Js} (h : d.off = true) : jAppend d S (S.log.base + S.log.l.length + 1) twoEn = (d, S, 8) := by
  unfold jAppend
  rw [if_neg (by simp only [not_or]; refine ⟨by omega, by omega, by decide⟩), if_neg (by simp [twoEn]), off_add _ h]
  rfl
theorem zero_append {d : Ds} {S : Js} : jAppend d S 0 twoEn = (d, S, 1) := by
  unfold jAppend
  rw [if_pos (.inl (Nat.zero_le _))]
theorem six_save {d : Ds} {S : Js} : jSave d S ⟨0, 6, 0⟩ = (d, S, 1) := by
  unfold jSave
  rw [if_pos (.inr (by show (5 : Int) < 6; omega))]
theorem fuse_off (d : Ds) : (d.fuse 0).off = true := by simp [Ds.fuse, Ds.off]
theorem fuse_ok {d : Ds} {n : Nat} (h : d.Ok n) : (d.fuse 0).Ok n := ⟨⟨h.1.1, h.1.2.1, h.1.2.2.1, by simp [Ds.fuse], by simp [Ds.fuse]⟩, h.2⟩
end Go.Proofs.Ytmehcogaopackaa
/- The walk of JournalMemory. -/
namespace Go.Proofs.Ytmehcogaopackaa
open Go.RowKit
set_option linter.unusedVariables false
set_option linter.unusedSimpArgs false
/-- nothing, appended to a new empty slice -/
theorem run_append_none_entry (w : World) (b n c : Nat) (hn : n = 0) : ((Builtin.append_ #[27, 27] 27 #[Value.slice (some ⟨b, 0, none⟩) 0 0, Value.slice none n c]).run Try.prog w : Result Value) = .ok (.slice (some ⟨b, 0, none⟩) 0 0) w := by
  subst hn
  obtain ⟨i0, hi, hz0, hz1, hz2⟩ := info_parts infoEntry
  simp [Builtin.append_, run_underlying (Try.underlying27), sizeOf, typeInfo, hi, Builtin.lenOf, Builtin.firstCells, loadCells, loadCellsFrom, storeCells]
theorem run_append_none_int (w : World) (b n c : Nat) (hn : n = 0) : ((Builtin.append_ #[26, 26] 26 #[Value.slice (some ⟨b, 0, none⟩) 0 0, Value.slice none n c]).run Try.prog w : Result Value) = .ok (.slice (some ⟨b, 0, none⟩) 0 0) w := by
  subst hn
  obtain ⟨i0, hi, hz0, hz1, hz2⟩ := info_parts infoInt1
  simp [Builtin.append_, run_underlying (Try.underlying26), sizeOf, typeInfo, hi, Builtin.lenOf, Builtin.firstCells, loadCells, loadCellsFrom, storeCells]
theorem AcFit.of {a : Ac} {vc vl : Value} {w : World} (h : AcArg a vc vl w) (h1 : a.log.l.length ≤ 1000) (h2 : a.log.conf.length ≤ 1000) (h3 : a.image.length ≤ 65536) (h4 : ∀ e ∈ a.log.l, e.data.length ≤ 65536) : AcFit a :=
  ⟨h.2.2.1, h.2.2.2.1, h.2.2.2.2.1, h.2.2.2.2.2.1, h.2.2.2.2.2.2.1, fun e he => ⟨(h.2.2.2.2.2.2.2.1 e he).1, by have := h4 e he; omega⟩, h2, h1, by omega⟩
theorem AcArg.below {a : Ac} {vc vl : Value} {w w' : World} (h : AcArg a vc vl w) (hb : Below w.heap.size w w') : AcArg a vc vl w' := ⟨h.1.below hb, h.2.1.below hb, h.2.2⟩
theorem AcsArg.below {l : List Ac} {v : Value} {w w' : World} (h : AcsArg l v w) (hb : Below w.heap.size w w') : AcsArg l v w' := by
  obtain ⟨x, cap, hv, h1, h2, hx⟩ := h
  refine ⟨x, cap, hv, h1, h2, fun hp => ?_⟩
  obtain ⟨b, off, hxe, hj⟩ := hx hp
  refine ⟨b, off, hxe, fun j hj' => ?_⟩
  obtain ⟨vc, vl, ha, hc⟩ := hj j hj'
  refine ⟨vc, vl, ha.below hb, fun k u hu => ?_⟩
  have h1 := hc k u hu
  exact (World.cell?_of_block (hb.block b (World.block_lt_of_cell? _ _ h1))).trans h1
theorem AcsArg.one {a : Ac} {vc vl : Value} {w : World} (ha : AcArg a vc vl w) : AcsArg [a] (.slice (some ⟨w.heap.size, 0, none⟩) 1 1) (w.alloc (.cells (a.vals vc vl).toArray 31)) := by
  have hb : Below w.heap.size w (w.alloc (.cells (a.vals vc vl).toArray 31)) := (Below.refl _ _).alloc (Nat.le_refl _) _
  refine ⟨some ⟨w.heap.size, 0, none⟩, 1, rfl, Nat.le_refl _, by decide, fun _ => ⟨w.heap.size, 0, rfl, fun j hj => ?_⟩⟩
  have hj0 : j = 0 := by simp only [List.length_singleton] at hj; omega
  subst hj0
  refine ⟨vc, vl, ha.below hb, fun k u hu => ?_⟩
  rw [show 0 + 0 * 11 + k = k by omega]
  exact cell_in (heap_alloc_new w _) k u (by simpa using hu)
theorem Cells.beside {W w : World} {v : Value} {n : Nat} {xs : List Value} (h : Cells [] W v n xs) (hb : Below W.heap.size W w) {G : List Nat} (hG : ∀ b ∈ G, W.heap.size ≤ b) : Cells G w v n xs := by
  obtain ⟨a, cap, hv, hc, hx⟩ := h
  refine ⟨a, cap, hv, hc, fun hp => ?_⟩
  obtain ⟨b, off, ha, _, hcell⟩ := hx hp
  have hlt : b < W.heap.size := World.block_lt_of_cell? _ _ (hcell 0 hp)
  exact ⟨b, off, ha, fun hm => by have := hG b hm; omega, fun j hj => (World.cell?_of_block (hb.block b hlt)).trans (hcell j hj)⟩
theorem AcsArg.toIn {W w : World} {l : List Ac} {v : Value} (h : AcsArg l v W) (hb : Below W.heap.size W w) {G : List Nat} (hG : ∀ b ∈ G, W.heap.size ≤ b) (hok : ScriptOk l) : AcsIn G l v w := by
  obtain ⟨x, cap, hv, h1, h2, hx⟩ := h
  refine ⟨x, cap, hv, h1, fun a ha => ?_, fun hp => ?_⟩
  · obtain ⟨j, hj, rfl⟩ := List.getElem_of_mem ha
    obtain ⟨b, off, hxe, hjj⟩ := hx (by omega)
    obtain ⟨vc, vl, harg, _⟩ := hjj j hj
    have h5 := hok.2 _ ha
    exact AcFit.of harg h5.1 h5.2.1 h5.2.2.1 h5.2.2.2
  · obtain ⟨b, off, hxe, hjj⟩ := hx hp
    obtain ⟨vc0, vl0, _, hc0⟩ := hjj 0 hp
    have hlt : b < W.heap.size := World.block_lt_of_cell? _ _ (hc0 0 _ rfl)
    refine ⟨b, off, hxe, fun hm => by have := hG b hm; omega, fun j hj => ?_⟩
    obtain ⟨vc, vl, harg, hc⟩ := hjj j hj
    exact ⟨vc, vl, harg.1.beside hb hG, harg.2.1.beside hb hG, fun k u hu => (World.cell?_of_block (hb.block b hlt)).trans (hc k u hu)⟩
def mD0 : Ds := Ds.new 1048576
def mD1 : Ds := (jOpen mD0).1
theorem m1 : (jOpen mD0).2 = (some alS1, 0) := by kernel_rfl
theorem m1' : jOpen mD0 = (mD1, some alS1, 0) := by unfold mD1; exact trip m1
theorem mOk1 : mD1.Ok 3 := by unfold mD1; exact jOpen_ok (dsnew_ok 1048576 (by decide))
set_option maxRecDepth 100000 in
set_option maxHeartbeats 16000000 in
theorem journalMemory_walk (l : List Ac) (v : Value) (a : Ac) (vc vl : Value) (W : World) (hv : AcsArg l v W) (ha : AcArg a vc vl W) :
    Calls Try.prog 3 #[v, .agg (a.vals vc vl).toArray] W fun e W' => e = .returned (.bool true) ∧ Below W.heap.size W W' := by
  have hb0 : Below W.heap.size W (W.alloc (.cells (a.vals vc vl).toArray 31)) := (Below.refl _ _).alloc (Nat.le_refl _) _
  have hk0 := heap_alloc_new W (.cells (a.vals vc vl).toArray 31)
  obtain ⟨xl, cap, rfl, _⟩ : ∃ x cap, v = .slice x l.length cap ∧ True := by obtain ⟨x, cap, h, _⟩ := hv; exact ⟨x, cap, h, trivial⟩
  obtain ⟨ac, cc, rfl⟩ := ha.1.form
  obtain ⟨al, cl, rfl⟩ := ha.2.1.form
  have HB0 := hid hb0
  have HK0 := hid hk0
  have HV := hid hv
  have HA := hid ha
  clear hv ha hb0 hk0
  go_enter Try.func3, Try.ntmps3
  go_wp2_with fail
  refine Calls.mono (alive_any _) ?_
  rintro e w1 ⟨rfl, hb1⟩
  have HB1 := hid (HB0.out.trans (hb1.mono HB0.out.size))
  have HK1 := hid (blk_below HK0.out hb1)
  clear hb1
  go_wp2_with fail
  refine Calls.mono (great_any l _ w1 (HV.out.below HB1.out)) ?_
  rintro e w2 ⟨g1, rfl, hg1, hb2⟩
  have HB2 := hid (HB1.out.trans (hb2.mono HB1.out.size))
  have HK2 := hid (blk_below HK1.out hb2)
  have HG1 := hid hg1
  clear hb2 hg1
  cases g1
  · have c0 := cell_in HK2.out 0 (.int .i64 a.kind) rfl
    have c1 := cell_in HK2.out 1 (.int .i64 a.n) rfl
    have c2 := cell_in HK2.out 2 (.int .u64 a.fr) rfl
    have c3 := cell_in HK2.out 3 (.int .u64 a.hard.term) rfl
    have c4 := cell_in HK2.out 4 (.int .i64 a.hard.vote) rfl
    have c5 := cell_in HK2.out 5 (.int .u64 a.hard.life) rfl
    have c6 := cell_in HK2.out 6 (.int .u64 a.log.base) rfl
    have c7 := cell_in HK2.out 7 (.int .u64 a.log.bterm) rfl
    have c8 := cell_in HK2.out 8 (.slice ac a.log.conf.length cc) rfl
    have c9 := cell_in HK2.out 9 (.slice al a.log.l.length cl) rfl
    have c10 := cell_in HK2.out 10 (.string (str a.image)) rfl
    have HGA := hid (great_any [a] _ _ (AcsArg.one (HA.out.below HB2.out)))
    go_wp2_with fail
    refine Calls.mono HGA.out ?_
    rintro e w3 ⟨g2, rfl, hg2, hb3⟩
    have hba : Below w2.heap.size w2 (w2.alloc (.cells (a.vals (.slice ac a.log.conf.length cc) (.slice al a.log.l.length cl)).toArray 31)) := (Below.refl _ _).alloc (Nat.le_refl _) _
    have hb3' : Below w2.heap.size w2 w3 := hba.trans (hb3.mono hba.size)
    have HB3 := hid (HB2.out.trans (hb3'.mono HB2.out.size))
    have HK3 := hid (blk_below HK2.out hb3')
    have HG2 := hid hg2
    clear hb3 hb3' hba hg2 HGA c0 c1 c2 c3 c4 c5 c6 c7 c8 c9 c10
    cases g2
    · go_wp2_with fail
      refine Calls.mono (jopen_nil w3) ?_
      rintro e w4 ⟨rfl, hb4⟩
      have HB4 := hid (HB3.out.trans (hb4.mono HB3.out.size))
      have HK4 := hid (blk_below HK3.out hb4)
      clear hb4
      go_wp2_with fail
      refine Calls.mono (state_nil w4) ?_
      rintro e w5 ⟨rfl, hb5⟩
      have HB5 := hid (HB4.out.trans (hb5.mono HB4.out.size))
      have HK5 := hid (blk_below HK4.out hb5)
      clear hb5
      go_wp2_with fail
      refine Calls.mono (show Calls Try.prog 7 #[.agg toldZ, .agg toldZ] w5 _ from rsame_eq (S := Js.zero) (Cells.nil _ _) (Cells.nil _ _) (Cells.nil _ _) (Cells.nil _ _) (by decide) (by decide)) ?_
      rintro e w6 ⟨rfl, hb6⟩
      have HB6 := hid (HB5.out.trans (hb6.mono HB5.out.size))
      have HK6 := hid (blk_below HK5.out hb6)
      clear hb6
      have c3 := cell_in HK6.out 3 (.int .u64 a.hard.term) rfl
      have c4 := cell_in HK6.out 4 (.int .i64 a.hard.vote) rfl
      have c5 := cell_in HK6.out 5 (.int .u64 a.hard.life) rfl
      go_wp2_with fail
      refine Calls.mono (jsave_nil a.hard.term a.hard.vote a.hard.life w6) ?_
      rintro e w7 ⟨rfl, hb7⟩
      have HB7 := hid (HB6.out.trans (hb7.mono HB6.out.size))
      have HK7 := hid (blk_below HK6.out hb7)
      clear hb7 c3 c4 c5
      go_wp2_with fail
      refine Calls.mono (jappend_nil w7) ?_
      rintro e w8 ⟨rfl, hb8⟩
      have HB8 := hid (HB7.out.trans (hb8.mono HB7.out.size))
      have HK8 := hid (blk_below HK7.out hb8)
      clear hb8
      have c6 := cell_in HK8.out 6 (.int .u64 a.log.base) rfl
      have c7 := cell_in HK8.out 7 (.int .u64 a.log.bterm) rfl
      have c8 := cell_in HK8.out 8 (.slice ac a.log.conf.length cc) rfl
      have c9 := cell_in HK8.out 9 (.slice al a.log.l.length cl) rfl
      go_wp2_with fail
      refine Calls.mono (jrebase_nil a.log.base a.log.bterm ac al a.log.conf.length a.log.l.length cc cl w8) ?_
      rintro e w9 ⟨rfl, hb9⟩
      have HB9 := hid (HB8.out.trans (hb9.mono HB8.out.size))
      have HK9 := hid (blk_below HK8.out hb9)
      clear hb9 c6 c7 c8 c9
      go_wp2_with fail
      refine Calls.mono (show Calls Try.prog 12 #[.int .i64 1048576] w9 _ from dnew_any 1048576 (by decide) w9) ?_
      rintro e w10 ⟨p, F, rfl, hd10, hf10, hb10⟩
      have HD10 := hid hd10
      have HF10 := hid hf10
      have HB10 := hid (HB9.out.trans (hb10.mono HB9.out.size))
      have HK10 := hid (blk_below HK9.out hb10)
      clear hd10 hf10 hb10
      go_wp2_with fail
      refine Calls.mono (open_journal HD10.out (dsnew_ok 1048576 (by decide)) (by decide)) ?_
      intro e w11 hp11
      rw [show Ds.new 1048576 = mD0 from rfl, m1'] at hp11
      obtain ⟨jj, G, rfl, hj11, hg11, ht11, hl11⟩ := openPost_some hp11
      have HJ11 := hid hj11
      have HG11 : Hid (∀ b ∈ G, W.heap.size ≤ b ∧ b ≠ W.heap.size) := fun b hb => by
        have hw9 := HB9.out.size
        have hk9 := (Array.getElem?_eq_some_iff.1 HK9.out).1
        have hw10 := HB10.out.size
        rcases hg11 b hb with h | h
        · have := HF10.out b h; omega
        · have := (Array.getElem?_eq_some_iff.1 HK10.out).1; omega
      have HB11 : Hid (Below W.heap.size W w11) := HB10.out.trans (ht11.toBelow HB10.out.size (fun b hb => Nat.le_trans HB9.out.size (HF10.out b hb)))
      have HK11 := hid ((ht11.block (Array.getElem?_eq_some_iff.1 HK10.out).1 (fun hm => by have := HF10.out _ hm; have := (Array.getElem?_eq_some_iff.1 HK9.out).1; omega)).trans HK10.out)
      clear hp11 hj11 hg11 ht11 hl11
      go_wp2_with fail
      refine Calls.mono (run_any HJ11.out mOk1 (by decide) (m := 0) (by decide) (by decide) l _ (HG1.out (by first | trivial | rfl)).1 (HV.out.toIn HB11.out (fun b hb => (HG11.out b hb).1) (HG1.out (by first | trivial | rfl)))) ?_
      rintro e w12 ⟨rfl, hr12⟩
      obtain ⟨G12, d12, S12, k1, k2, k3, k4, k5⟩ := hr12
      have HJ12 := hid k1
      have HOK12 := hid k4
      have HL12 := hid k5
      have HK12 := hid ((k3.block (Array.getElem?_eq_some_iff.1 HK11.out).1 (fun hm => (HG11.out _ hm).2 rfl)).trans HK11.out)
      have HB12 : Hid (Below W.heap.size W w12) := HB11.out.trans (k3.toBelow HB11.out.size (fun b hb => (HG11.out b hb).1))
      have HJ12lt := hid k1.lt
      have HG12 : Hid (∀ b ∈ G12, W.heap.size ≤ b ∧ b ≠ W.heap.size) := fun b hb => by
        rcases k2 b hb with h | h
        · exact HG11.out b h
        · have := (Array.getElem?_eq_some_iff.1 HK11.out).1; have := HB11.out.size; omega
      clear k1 k2 k3 k4 k5
      go_upto_region 12 with fail
      go_cut [1, 12] from 21 (fun s1 s12 w13 => s1 = .agg (a.vals (.slice ac a.log.conf.length cc) (.slice al a.log.l.length cl)).toArray ∧ ∃ (ao : Option Addr) (co : Nat), s12 = .slice ao a.log.l.length co ∧ w13.ownsRow w12.heap.size 50 3 s12 a.log.l.length (enVals a.log.l) ∧ Below w12.heap.size w12 w13)
      case first =>
        obtain ⟨i0, hi0, hz0, hz1, hz2⟩ := info_parts infoEntry
        have hba := (Below.refl w12.heap.size w12).alloc (Nat.le_refl _) (.cells #[] 50)
        have c9 := cell_in (blk_below HK12.out hba) 9 (.slice al a.log.l.length cl) rfl
        have HVL := hid ((HA.out.2.1.below HB12.out).below hba)
        have hll := (HG2.out (by first | trivial | rfl)).2 a (by simp)
        have HLL := hid hll.1
        clear hll
        cases al with
        | none =>
          have hn0 : a.log.l = [] := by
            obtain ⟨_, _, hx⟩ := HVL.out.at
            cases h : a.log.l with
            | nil => rfl
            | cons e r =>
              obtain ⟨b, o, h1, _⟩ := hx (by rw [enVals_len, h]; simp)
              cases h1
          have HL0 : Hid (a.log.l.length = 0) := hid (by rw [hn0]; rfl)
          have HN0 := hid hn0
          have hrn := fun w => run_append_none_entry w w12.heap.size a.log.l.length cl HL0.out
          have HBN := hid hba
          clear hn0 hba
          go_wp2_with fail
          go_meet
          case rel => exact ⟨by rw [HL0.out], some ⟨w12.heap.size, 0, none⟩, 0, by rw [HL0.out], by rw [HN0.out]; exact World.ownsRow_made w12 #[] 0 (Nat.le_refl _) (Nat.zero_le _) (by simp), HBN.out⟩
        | some ad =>
          go_wp2_with (at_builtin; refine wpList_append_own _ rfl _ _ 27 rfl w12.heap.size 50 i0 (.agg #[.int .u64 0, .int .i64 0, .string { data := #[] }]) 3 32 Try.underlying27 hi0 hz0 hz1 hz2 rfl (by decide) _ _ _ rfl (World.ownsRow_made w12 #[] 0 (Nat.le_refl _) (Nat.zero_le _) (by simp)) ad a.log.l.length cl (enVals a.log.l) rfl ?qc1 ?qc2 ?qc3 ?qc4 ?qc5 ?qc6 ?_)
          case qc1 => rw [enVals_len]; omega
          case qc2 =>
            intro j u hj
            by_cases hp : 0 < (enVals a.log.l).length
            · obtain ⟨b, o, h1, hcell⟩ := HVL.out.at.2.2 hp
              cases h1
              rw [add_addr]
              exact hcell _ (Below.refl _ _) j u hj
            · have h0 : enVals a.log.l = [] := List.eq_nil_of_length_eq_zero (by omega)
              rw [h0] at hj
              simp at hj
          case qc3 => exact enVals_one _
          case qc4 => have := HLL.out; unfold maxLen; omega
          case qc5 => have := HLL.out; omega
          case qc6 => simp
          intro v' w13 hown hgrow hnil
          obtain ⟨ao, co, rfl⟩ := own_form hown
          have HOW := hid (show w13.ownsRow w12.heap.size 50 3 (.slice ao (0 + a.log.l.length) co) a.log.l.length (enVals a.log.l) by simpa using hown)
          have HBN := hid (((Below.refl _ w12).alloc (Nat.le_refl _) (.cells #[] 50)).grown hgrow (by simp) (by intro k hk; simp [Value.ownBlock] at hk; omega))
          clear hown hgrow hnil c9
          go_wp2_with fail
          go_meet
          case rel => exact ⟨rfl, ao, co, by simp, by simpa using HOW.out, HBN.out⟩
      case rest =>
        obtain ⟨w13, hwn⟩ : ∃ x : World, x = wc := ⟨wc, rfl⟩
        subst hwn
        obtain ⟨rfl, ao, co, rfl, hown, hb13⟩ := hcut
        have HOWN := hid hown
        have HB13 := hid hb13
        have HBT := hid (HB12.out.trans (hb13.mono HB12.out.size))
        have HK13 := hid (blk_below HK12.out hb13)
        have HJ13 := hid (HJ12.out.below hb13)
        have HW13 : Hid (w12.heap.size ≤ w13.heap.size) := hb13.size
        clear hown hb13
        go_upto_region 13 with fail
        go_cut [1, 13] from 21 (fun s1 s13 w14 => s1 = .agg (a.vals (.slice ac a.log.conf.length cc) (.slice al a.log.l.length cl)).toArray ∧ ∃ (ai : Option Addr) (ci : Nat), s13 = .slice ai a.log.conf.length ci ∧ w14.ownsRow w13.heap.size 3 1 s13 a.log.conf.length (intVals a.log.conf) ∧ Below w13.heap.size w13 w14)
        case first =>
          obtain ⟨i0, hi0, hz0, hz1, hz2⟩ := info_parts infoInt1
          have hba := (Below.refl w13.heap.size w13).alloc (Nat.le_refl _) (.cells #[] 3)
          have c8 := cell_in (blk_below HK13.out hba) 8 (.slice ac a.log.conf.length cc) rfl
          have HVL := hid ((HA.out.1.below HBT.out).below hba)
          have hll := (HG2.out (by first | trivial | rfl)).2 a (by simp)
          have HLL := hid hll.2.1
          clear hll
          cases ac with
          | none =>
            have HL0 : Hid (a.log.conf.length = 0) := hid (by
              obtain ⟨_, _, hx⟩ := HVL.out.at
              cases h : a.log.conf with
              | nil => rfl
              | cons e r =>
                obtain ⟨b, o, h1, _⟩ := hx (by rw [intVals_len, h]; simp)
                cases h1)
            have HN0 := hid (List.eq_nil_of_length_eq_zero HL0.out)
            have hrn := fun w => run_append_none_int w w13.heap.size a.log.conf.length cc HL0.out
            have HBN := hid hba
            clear hba
            go_wp2_with fail
            go_meet
            case rel => exact ⟨by rw [HL0.out], some ⟨w13.heap.size, 0, none⟩, 0, by rw [HL0.out], by rw [HN0.out]; exact World.ownsRow_made w13 #[] 0 (Nat.le_refl _) (Nat.zero_le _) (by simp), HBN.out⟩
          | some ad =>
            go_wp2_with (at_builtin; refine wpList_append_own _ rfl _ _ 26 rfl w13.heap.size 3 i0 (.int .i64 0) 1 8 Try.underlying26 hi0 hz0 hz1 hz2 rfl (by decide) _ _ _ rfl (World.ownsRow_made w13 #[] 0 (Nat.le_refl _) (Nat.zero_le _) (by simp)) ad a.log.conf.length cc (intVals a.log.conf) rfl ?qc1 ?qc2 ?qc3 ?qc4 ?qc5 ?qc6 ?_)
            case qc1 => rw [intVals_len]; omega
            case qc2 =>
              intro j u hj
              by_cases hp : 0 < (intVals a.log.conf).length
              · obtain ⟨b, o, h1, hcell⟩ := HVL.out.at.2.2 hp
                cases h1
                rw [add_addr]
                exact hcell _ (Below.refl _ _) j u hj
              · have h0 : intVals a.log.conf = [] := List.eq_nil_of_length_eq_zero (by omega)
                rw [h0] at hj
                simp at hj
            case qc3 => exact intVals_one _
            case qc4 => have := HLL.out; unfold maxLen; omega
            case qc5 => have := HLL.out; omega
            case qc6 => simp
            intro v' w14 hown hgrow hnil
            obtain ⟨ai, ci, rfl⟩ := own_form hown
            have HOW := hid (show w14.ownsRow w13.heap.size 3 1 (.slice ai (0 + a.log.conf.length) ci) a.log.conf.length (intVals a.log.conf) by simpa using hown)
            have HBN := hid (((Below.refl _ w13).alloc (Nat.le_refl _) (.cells #[] 3)).grown hgrow (by simp) (by intro k hk; simp [Value.ownBlock] at hk; omega))
            clear hown hgrow hnil c8
            go_wp2_with fail
            go_meet
            case rel => exact ⟨rfl, ai, ci, by simp, by simpa using HOW.out, HBN.out⟩
        case rest =>
          obtain ⟨w14, hwn⟩ : ∃ x : World, x = wc := ⟨wc, rfl⟩
          subst hwn
          obtain ⟨rfl, ai, ci, rfl, hownc, hb14⟩ := hcut
          have HOWN4 := hid (ownsRow_of_block HOWN.out fun r hr => hb14.block r (HOWN.out.lt r hr).2)
          have HOWC := hid hownc
          have HB14 := hid (HBT.out.trans (hb14.mono HBT.out.size))
          have HK14 := hid (blk_below HK13.out hb14)
          have HJ14 := hid (HJ13.out.below hb14)
          have HW14 : Hid (w13.heap.size ≤ w14.heap.size) := hb14.size
          clear hownc hb14 HK0 HK1 HK2 HK3 HK4 HK5 HK6 HK7 HK8 HK9 HK10 HK11 HK12 HK13 HB0 HB1 HB2 HB3 HB4 HB5 HB6 HB7 HB8 HB9 HB10 HB11 HJ11 HD10 HF10 HG11 HJ12 HJ13 HOWN HV
          have e0 := cell_in HK14.out 0 (.int .i64 a.kind) rfl
          have e2 := cell_in HK14.out 2 (.int .u64 a.fr) rfl
          have e3 := cell_in HK14.out 3 (.int .u64 a.hard.term) rfl
          have e4 := cell_in HK14.out 4 (.int .i64 a.hard.vote) rfl
          have e5 := cell_in HK14.out 5 (.int .u64 a.hard.life) rfl
          have e6 := cell_in HK14.out 6 (.int .u64 a.log.base) rfl
          have e7 := cell_in HK14.out 7 (.int .u64 a.log.bterm) rfl
          have e10 := cell_in HK14.out 10 (.string (str a.image)) rfl
          go_wp2_with fail
          have hba : Below w14.heap.size w14 (w14.alloc (.cells (({a with n := 0} : Ac).vals (.slice ai a.log.conf.length ci) (.slice ao a.log.l.length co)).toArray 31)) := (Below.refl _ _).alloc (Nat.le_refl _) _
          have hG12 := HJ14.out.lt
          have hlt12 := HJ12lt.out
          have hin : AcsIn G12 [({a with n := 0} : Ac)] (.slice (some ⟨w14.heap.size, 0, none⟩) 1 1) (w14.alloc (.cells (({a with n := 0} : Ac).vals (.slice ai a.log.conf.length ci) (.slice ao a.log.l.length co)).toArray 31)) := by
            refine ⟨some ⟨w14.heap.size, 0, none⟩, 1, rfl, Nat.le_refl _, fun x hx => ?_, fun _ => ⟨w14.heap.size, 0, rfl, fun hm => by have := hG12 _ hm; omega, fun j hj => ?_⟩⟩
            · obtain rfl := List.mem_singleton.1 hx
              have h5 := (HG2.out (by first | trivial | rfl)).2 a (by simp)
              exact (AcFit.of HA.out h5.1 h5.2.1 h5.2.2.1 h5.2.2.2)
            · have hj0 : j = 0 := by simp only [List.length_singleton] at hj; omega
              subst hj0
              refine ⟨.slice ai a.log.conf.length ci, .slice ao a.log.l.length co, (Cells.of_row HOWC.out G12 (fun b hb => by have := hlt12 b hb; have := HW13.out; omega)).below hba, (Cells.of_row HOWN4.out G12 (fun b hb => hlt12 b hb)).below hba, fun k u hu => ?_⟩
              rw [show 0 + 0 * 11 + k = k by omega]
              exact cell_in (heap_alloc_new w14 _) k u (by simpa using hu)
          have HRUN := hid (run_any (HJ14.out.below hba) HOK12.out (by have := (HG1.out (by first | trivial | rfl)).1; omega) HL12.out (by have := (HG1.out (by first | trivial | rfl)).1; omega) _ _ (by simp) hin)
          have HBA := hid hba
          clear hin hba hG12 hlt12 e0 e2 e3 e4 e5 e6 e7 e10
          refine Calls.mono HRUN.out ?_
          rintro e w15 ⟨rfl, hr15⟩
          obtain ⟨G15, d15, S15, k1, k2, k3, k4, k5⟩ := hr15
          have hz14 : (w14.alloc (.cells (({a with n := 0} : Ac).vals (.slice ai a.log.conf.length ci) (.slice ao a.log.l.length co)).toArray 31)).heap.size = w14.heap.size + 1 := World.size_alloc _ _
          have HJ15 := hid k1
          have HOK15 := hid k4
          have HL15 := hid k5
          have HB15 : Hid (Below W.heap.size W w15) := (HB14.out.trans (HBA.out.mono HB14.out.size)).trans (k3.toBelow (by rw [hz14]; have := HB14.out.size; omega) (fun b hb => (HG12.out b hb).1))
          have HG15 : Hid (∀ b ∈ G15, b < w12.heap.size ∨ w14.heap.size ≤ b) := fun b hb => by
            rcases k2 b hb with h | h
            · exact .inl (HJ12lt.out b h)
            · right; omega
          have HGW15 : Hid (∀ b ∈ G15, W.heap.size ≤ b) := fun b hb => by
            rcases k2 b hb with h | h
            · exact (HG12.out b h).1
            · have := HB14.out.size; omega
          have HOWN5 := hid (ownsRow_of_block HOWN4.out fun r hr => by
            have h1 := HOWN4.out.lt r hr
            exact (k3.block (by rw [hz14]; omega) (fun hm => by have := HJ12lt.out r hm; omega)).trans (heap_alloc_old w14 _ h1.2))
          have HOWC5 := hid (ownsRow_of_block HOWC.out fun r hr => by
            have h1 := HOWC.out.lt r hr
            exact (k3.block (by rw [hz14]; omega) (fun hm => by have := HJ12lt.out r hm; have := HW13.out; omega)).trans (heap_alloc_old w14 _ h1.2))
          have HLO5 := hid (fun r (hr : (Value.slice ao a.log.l.length co).ownBlock = some r) => HOWN4.out.lt r hr)
          have HLC5 := hid (fun r (hr : (Value.slice ai a.log.conf.length ci).ownBlock = some r) => HOWC.out.lt r hr)
          have HZ15 : Hid (w14.heap.size < w15.heap.size) := by have h := k3.size; rw [hz14] at h; exact h
          clear k1 k2 k3 k4 k5 hz14 HRUN HOWN4 HOWC HJ14 HBA HK14 HOK12 HL12 HBT
          as_aux_lemma =>
          go_wp2_with fail
          refine Calls.mono (state_any HJ15.out) ?_
          rintro e w16 ⟨vcw, vlw, rfl, hr1, hr2, hb16⟩
          obtain ⟨acw, ccw, rfl⟩ := own_form hr1
          obtain ⟨alw, clw, rfl⟩ := own_form hr2
          have HK16 := hid (heap_alloc_new w16 (.cells toldZ 40))
          have hk17 := setRow_heap _ _ _ (toldCells S15 (.slice acw S15.log.conf.length ccw) (.slice alw S15.log.l.length clw)) _ (0, 0) HK16.out
          have hb17 : Below w16.heap.size w16 ((w16.alloc (.cells toldZ 40)).setRow w16.heap.size (toldCells S15 (.slice acw S15.log.conf.length ccw) (.slice alw S15.log.l.length clw))) := below_row ((Below.refl _ _).alloc (Nat.le_refl _) _) (Nat.le_refl _) _
          have hl15 := HJ15.out.lt
          have hD : ∀ b ∈ ownL (.slice ao a.log.l.length co) ++ ownL (.slice ai a.log.conf.length ci), w12.heap.size ≤ b ∧ b < w14.heap.size := fun b hb => by
            rcases List.mem_append.1 hb with h | h
            · exact HLO5.out b (mem_ownL.1 h)
            · have := HLC5.out b (mem_ownL.1 h); have := HW13.out; omega
          have hDG : ∀ b ∈ (ownL (.slice ao a.log.l.length co) ++ ownL (.slice ai a.log.conf.length ci)) ++ G15, b < w15.heap.size := fun b hb => by
            rcases List.mem_append.1 hb with h | h
            · have := (hD b h).2; have := HZ15.out; omega
            · exact hl15 b h
          have hkp : Kp W.heap.size W jj p w16.heap.size G15 (ownL (.slice ao a.log.l.length co) ++ ownL (.slice ai a.log.conf.length ci)) d15 S15 (.slice acw S15.log.conf.length ccw) (.slice alw S15.log.l.length clw) ((w16.alloc (.cells toldZ 40)).setRow w16.heap.size (toldCells S15 (.slice acw S15.log.conf.length ccw) (.slice alw S15.log.l.length clw))) := by
            refine ⟨(HJ15.out.below hb16).below hb17, hk17, (Cells.of_row hr1 _ hDG).below hb17, (Cells.of_row hr2 _ hDG).below hb17, (HB15.out.trans (hb16.mono HB15.out.size)).trans (hb17.mono (HB15.out.trans (hb16.mono HB15.out.size)).size), Nat.le_refl _, fun hm => ?_, fun hm => ?_, fun b hb hm => ?_, fun b hb => ?_, HGW15.out⟩
            · have := (hD _ hm).2; have := HZ15.out; have := hb16.size; omega
            · have := hl15 _ hm; have := hb16.size; omega
            · have h1 := hD b hb
              rcases HG15.out b hm with h | h <;> omega
            · have h1 := (hD b hb).1
              have h2 := HB12.out.size
              omega
          have hown7 := ownsRow_of_block (ownsRow_of_block HOWN5.out fun r hr => hb16.block r (HOWN5.out.lt r hr).2) fun r hr => hb17.block r (by have := (HOWN5.out.lt r hr).2; have := hb16.size; omega)
          have hownc7 := ownsRow_of_block (ownsRow_of_block HOWC5.out fun r hr => hb16.block r (HOWC5.out.lt r hr).2) fun r hr => hb17.block r (by have := (HOWC5.out.lt r hr).2; have := hb16.size; omega)
          have HKP := hid hkp
          have HOWN7 := hid hown7
          have HOWC7 := hid hownc7
          clear hk17 hb17 hl15 hD hDG hkp hown7 hownc7 hr1 hr2 hb16
          go_wp2_with (refine wpList_store_row rfl 40 _ _ rfl w16.heap.size (toldCells S15 (.slice acw S15.log.conf.length ccw) (.slice alw S15.log.l.length clw)) (by rfl) (by rfl) 40 _ HK16.out sizeTold rfl (by simp [toldCells, Value.oneCell']) ?_)
          rw [show #[Value.int IntKind.u64 0, Value.int IntKind.i64 0, Value.int IntKind.u64 0, Value.int IntKind.u64 0, Value.int IntKind.u64 0, Value.slice none 0 0, Value.slice none 0 0, Value.string { data := #[] }] = toldZ from rfl]
          generalize (w16.alloc (.cells toldZ 40)).setRow w16.heap.size (toldCells S15 (.slice acw S15.log.conf.length ccw) (.slice alw S15.log.l.length clw)) = w17 at *
          have hln : a.log.l.length ≤ 1000 := ((HG2.out (by first | trivial | rfl)).2 a (by simp)).1
          have hlc : a.log.conf.length ≤ 1000 := ((HG2.out (by first | trivial | rfl)).2 a (by simp)).2.1
          go_loopw [15] (fun i wr => ∃ q : Nat, i = .int .i64 q ∧ q ≤ a.log.l.length ∧ Turn (ownL (.slice ao a.log.l.length co)) w17 wr ∧ (0 < a.log.l.length → ∃ g z, ao = some ⟨g, z, none⟩ ∧ z = 0 ∧ Wr g 50 (a.log.l.length * 3) wr)) (fun i _ => a.log.l.length - (intOf i).toNat)
          case atStart => exact ⟨0, rfl, Nat.zero_le _, .refl _ _, fun h => by obtain ⟨g, z, h1, h2, _, h4⟩ := own_cells HOWN7.out h; exact ⟨g, z, h1, h2, h4⟩⟩
          case round =>
          obtain ⟨q, rfl, hq, ht, hw⟩ := hrel
          by_cases hlt : q < a.log.l.length
          · as_aux_lemma =>
            obtain ⟨g, z, rfl, hz, hwr⟩ := hw (by omega)
            obtain ⟨u0, d0, f0⟩ := hwr.cell (z + q * 3) (by omega)
            obtain ⟨u1, d1, f1⟩ := hwr.cell (z + q * 3 + 1) (by omega)
            obtain ⟨u2, d2, f2⟩ := hwr.cell (z + q * 3 + 2) (by omega)
            have HT := hid ht
            have HWR := hid hwr
            have HZ := hid hz
            clear ht hw hwr hz
            go_wp2_with fail
            go_roundw
            case rel =>
              exact ⟨q + 1, by go_num, by omega, ((HT.out.trans (Turn.set _ g _ _ (by simp [ownL, Value.ownBlock])) (fun b h => .inl h)).trans (Turn.set _ g _ _ (by simp [ownL, Value.ownBlock])) (fun b h => .inl h)).trans (Turn.set _ g _ _ (by simp [ownL, Value.ownBlock])) (fun b h => .inl h), fun _ => ⟨g, z, rfl, HZ.out, ((HWR.out.set _ _).set _ _).set _ _⟩⟩
            case measure => simp [intOf]; omega
          obtain rfl : q = a.log.l.length := by omega
          obtain ⟨w18, hwn⟩ : ∃ x : World, x = wr := ⟨wr, rfl⟩
          subst hwn
          have HKP8 := hid (HKP.out.turn (ht.mono fun b hb => List.mem_append.2 (.inl hb)))
          have HOWC8 := hid (ownsRow_of_block HOWC7.out fun r hr => ht.block (HOWC7.out.lt r hr).2 (fun hm => by
            rcases HOWN7.out.2 with ⟨h1, _⟩ | ⟨g, cap', cur, h1, _, h3, _⟩
            · rw [h1] at hm; simp [ownL, Value.ownBlock] at hm
            · rw [h1] at hm
              obtain rfl : r = g := by simpa [ownL, Value.ownBlock] using hm
              exact own_ne HOWC7.out h3 (fun cur e => by cases e) hr.symm))
          clear ht hw hlt hq HKP HOWC7 HOWN7 HOWN5 HOWC5
          as_aux_lemma =>
          go_wp2_with fail
          go_loopw [16] (fun i wr => ∃ q : Nat, i = .int .i64 q ∧ q ≤ a.log.conf.length ∧ Turn (ownL (.slice ai a.log.conf.length ci)) w18 wr ∧ (0 < a.log.conf.length → ∃ g z, ai = some ⟨g, z, none⟩ ∧ z = 0 ∧ Wr g 3 (a.log.conf.length * 1) wr)) (fun i _ => a.log.conf.length - (intOf i).toNat)
          case atStart => exact ⟨0, rfl, Nat.zero_le _, .refl _ _, fun h => by obtain ⟨g, z, h1, h2, _, h4⟩ := own_cells HOWC8.out h; exact ⟨g, z, h1, h2, h4⟩⟩
          case round =>
          obtain ⟨q, rfl, hq, ht, hw⟩ := hrel
          by_cases hlt : q < a.log.conf.length
          · as_aux_lemma =>
            obtain ⟨g, z, rfl, hz, hwr⟩ := hw (by omega)
            obtain ⟨u0, d0, f0⟩ := hwr.cell (z + q) (by omega)
            have HT := hid ht
            have HWR := hid hwr
            have HZ := hid hz
            clear ht hw hwr hz
            go_wp2_with fail
            go_roundw
            case rel =>
              exact ⟨q + 1, by go_num, by omega, HT.out.trans (Turn.set _ g _ _ (by simp [ownL, Value.ownBlock])) (fun b h => .inl h), fun _ => ⟨g, z, rfl, HZ.out, HWR.out.set _ _⟩⟩
            case measure => simp [intOf]; omega
          obtain rfl : q = a.log.conf.length := by omega
          obtain ⟨w19, hwn⟩ : ∃ x : World, x = wr := ⟨wr, rfl⟩
          subst hwn
          have HKP9 := hid (HKP8.out.turn (ht.mono fun b hb => List.mem_append.2 (.inr hb))).done
          clear ht hw hlt hq HKP8 HOWC8
          as_aux_lemma =>
          go_wp2_with fail
          refine Calls.mono (jlog_any HKP9.out.jn) ?_
          rintro e w20 ⟨vcg, vlg, rfl, hr1, hr2, hb20⟩
          obtain ⟨acg, ccg, rfl⟩ := own_form hr1
          obtain ⟨alg, clg, rfl⟩ := own_form hr2
          go_wp2_with fail
          have HK20 := hid (heap_alloc_new w20 (.cells #[.int .u64 S15.log.base, .int .u64 S15.log.bterm, .slice acg S15.log.conf.length ccg, .slice alg S15.log.l.length clg] 29))
          have hba : Below w20.heap.size w20 (w20.alloc (.cells #[.int .u64 S15.log.base, .int .u64 S15.log.bterm, .slice acg S15.log.conf.length ccg, .slice alg S15.log.l.length clg] 29)) := (Below.refl _ _).alloc (Nat.le_refl _) _
          have HRL := hid (hr2.alloc (.cells #[.int .u64 S15.log.base, .int .u64 S15.log.bterm, .slice acg S15.log.conf.length ccg, .slice alg S15.log.l.length clg] 29))
          have HRC := hid (hr1.alloc (.cells #[.int .u64 S15.log.base, .int .u64 S15.log.bterm, .slice acg S15.log.conf.length ccg, .slice alg S15.log.l.length clg] 29))
          have HBG := hid (hb20.trans (hba.mono hb20.size))
          have hsl := HKP9.out.jn.ok
          have HSL := hid hsl.2
          have hcl := members_len _ hsl.1.2.2.2.2.2.1
          have HZ20 : Hid (w19.heap.size ≤ w20.heap.size) := hb20.size
          clear hba hr1 hr2 hb20 hsl
          generalize w20.alloc (.cells #[.int .u64 S15.log.base, .int .u64 S15.log.bterm, .slice acg S15.log.conf.length ccg, .slice alg S15.log.l.length clg] 29) = w21 at *
          generalize hbx : w20.heap.size = bx at HK20 ⊢
          have HZX : Hid (w19.heap.size ≤ bx) := hid (by rw [← hbx]; exact HZ20.out)
          clear HZ20
          have hsl := HSL.out
          go_loopw [18] (fun i wr => ∃ q : Nat, i = .int .i64 q ∧ q ≤ S15.log.l.length ∧ Turn (ownL (.slice alg S15.log.l.length clg)) w21 wr ∧ (0 < S15.log.l.length → ∃ g z, alg = some ⟨g, z, none⟩ ∧ z = 0 ∧ Wr g 50 (S15.log.l.length * 3) wr) ∧ wr.heap[bx]? = some (.cells #[.int .u64 S15.log.base, .int .u64 S15.log.bterm, .slice acg S15.log.conf.length ccg, .slice alg S15.log.l.length clg] 29)) (fun i _ => S15.log.l.length - (intOf i).toNat)
          case atStart => exact ⟨0, rfl, Nat.zero_le _, .refl _ _, fun h => by obtain ⟨g, z, h1, h2, _, h4⟩ := own_cells HRL.out h; exact ⟨g, z, h1, h2, h4⟩, HK20.out⟩
          case round =>
          obtain ⟨q, rfl, hq, ht, hw, hbxc⟩ := hrel
          have e3 := cell_in hbxc 3 (.slice alg S15.log.l.length clg) rfl
          by_cases hlt : q < S15.log.l.length
          · as_aux_lemma =>
            obtain ⟨g, z, rfl, hz, hwr⟩ := hw (by omega)
            obtain ⟨u0, d0, f0⟩ := hwr.cell (z + q * 3) (by omega)
            obtain ⟨u1, d1, f1⟩ := hwr.cell (z + q * 3 + 1) (by omega)
            obtain ⟨u2, d2, f2⟩ := hwr.cell (z + q * 3 + 2) (by omega)
            have hne : bx ≠ g := fun e => by
              obtain ⟨cs, h1, _⟩ := hwr
              rw [← e, hbxc] at h1
              cases h1
            have HT := hid ht
            have HWR := hid hwr
            have HZ := hid hz
            have HBX := hid hbxc
            have HNE := hid hne
            clear ht hw hwr hz hbxc hne
            go_wp2_with fail
            go_roundw
            case rel =>
              refine ⟨q + 1, by go_num, by omega, ((HT.out.trans (Turn.set _ g _ _ (by simp [ownL, Value.ownBlock])) (fun b h => .inl h)).trans (Turn.set _ g _ _ (by simp [ownL, Value.ownBlock])) (fun b h => .inl h)).trans (Turn.set _ g _ _ (by simp [ownL, Value.ownBlock])) (fun b h => .inl h), fun _ => ⟨g, z, rfl, HZ.out, ((HWR.out.set _ _).set _ _).set _ _⟩, ?_⟩
              exact (Below.heap_setCell _ _ _ _ HNE.out).trans ((Below.heap_setCell _ _ _ _ HNE.out).trans ((Below.heap_setCell _ _ _ _ HNE.out).trans HBX.out))
            case measure => simp [intOf]; omega
          obtain rfl : q = S15.log.l.length := by omega
          obtain ⟨w22, hwn⟩ : ∃ x : World, x = wr := ⟨wr, rfl⟩
          subst hwn
          have HT22 := hid ht
          have HBX22 := hid hbxc
          have HRC22 := hid (ownsRow_of_block HRC.out fun r hr => ht.block (HRC.out.lt r hr).2 (fun hm => by
            rcases HRL.out.2 with ⟨h1, _⟩ | ⟨g, cap', cur, h1, _, h3, _⟩
            · rw [h1] at hm; simp [ownL, Value.ownBlock] at hm
            · rw [h1] at hm
              obtain rfl : r = g := by simpa [ownL, Value.ownBlock] using hm
              exact own_ne HRC.out h3 (fun cur e => by cases e) hr.symm))
          have HLL := hid (fun r (hr : r ∈ ownL (.slice alg S15.log.l.length clg)) => (HRL.out.lt r (mem_ownL.1 hr)).1)
          clear ht hw hlt hq hbxc HRL HRC HK20
          as_aux_lemma =>
          go_wp2_with fail
          go_loopw [19] (fun i wr => ∃ q : Nat, i = .int .i64 q ∧ q ≤ S15.log.conf.length ∧ Turn (ownL (.slice acg S15.log.conf.length ccg)) w22 wr ∧ (0 < S15.log.conf.length → ∃ g z, acg = some ⟨g, z, none⟩ ∧ z = 0 ∧ Wr g 3 (S15.log.conf.length * 1) wr) ∧ wr.heap[bx]? = some (.cells #[.int .u64 S15.log.base, .int .u64 S15.log.bterm, .slice acg S15.log.conf.length ccg, .slice alg S15.log.l.length clg] 29)) (fun i _ => S15.log.conf.length - (intOf i).toNat)
          case atStart => exact ⟨0, rfl, Nat.zero_le _, .refl _ _, fun h => by obtain ⟨g, z, h1, h2, _, h4⟩ := own_cells HRC22.out h; exact ⟨g, z, h1, h2, h4⟩, HBX22.out⟩
          case round =>
          obtain ⟨q, rfl, hq, ht, hw, hbxc⟩ := hrel
          have e2 := cell_in hbxc 2 (.slice acg S15.log.conf.length ccg) rfl
          by_cases hlt : q < S15.log.conf.length
          · as_aux_lemma =>
            obtain ⟨g, z, rfl, hz, hwr⟩ := hw (by omega)
            obtain ⟨u0, d0, f0⟩ := hwr.cell (z + q) (by omega)
            have hne : bx ≠ g := fun e => by
              obtain ⟨cs, h1, _⟩ := hwr
              rw [← e, hbxc] at h1
              cases h1
            have HT := hid ht
            have HWR := hid hwr
            have HZ := hid hz
            have HBX := hid hbxc
            have HNE := hid hne
            clear ht hw hwr hz hbxc hne
            go_wp2_with fail
            go_roundw
            case rel =>
              exact ⟨q + 1, by go_num, by omega, HT.out.trans (Turn.set _ g _ _ (by simp [ownL, Value.ownBlock])) (fun b h => .inl h), fun _ => ⟨g, z, rfl, HZ.out, HWR.out.set _ _⟩, (Below.heap_setCell _ _ _ _ HNE.out).trans HBX.out⟩
            case measure => simp [intOf]; omega
          obtain rfl : q = S15.log.conf.length := by omega
          obtain ⟨w23, hwn⟩ : ∃ x : World, x = wr := ⟨wr, rfl⟩
          subst hwn
          have hT3 : Turn [] w19 w23 := ((Turn.below (F := []) HBG.out).trans HT22.out (fun b hb => .inr (HLL.out b hb))).trans ht (fun b hb => .inr (HRC22.out.lt b (mem_ownL.1 hb)).1)
          have HKP3 := hid (HKP9.out.turn hT3)
          clear ht hw hlt hq hbxc hT3 HKP9 HBG HT22 HRC22 HBX22 HLL
          as_aux_lemma =>
          go_wp2_with fail
          obtain ⟨F, g2, g9, g8, g7, gA⟩ := HKP3.out.jn.opened
          have HG2 := hid g2
          have HGA := hid gA
          clear g2 g9 g8 g7 gA e2
          refine Calls.mono (fuse_any HG2.out 0) ?_
          rintro e w24 ⟨rfl, hd24, ht24⟩
          obtain ⟨G24, hk24⟩ := HKP3.out.step (HGA.out _ _ ⟨F, hd24, fun _ h => .inl h, ht24.mono (by intro b hb; rw [List.mem_singleton.1 hb]; exact HG2.out.mem)⟩)
          have HKP4 := hid hk24
          have HOK24 := hid (fuse_ok HOK15.out)
          have hn24 : 3 + l.length + [({a with n := 0} : Ac)].length ≤ 900000 := by have := (HG1.out (by first | trivial | rfl)).1; simp only [List.length_singleton]; omega
          have HN24 := hid hn24
          have hbs := HKP4.out.jn.ok.1.2.2.2.1
          clear hk24 hd24 ht24 HGA HG2 HKP3 hn24
          have hw1 : IntKind.u64.wrap (S15.log.l.length : Int) = (S15.log.l.length : Int) := by rw [IntKind.wrap_u64]; omega
          obtain ⟨lst, hlst⟩ : ∃ n : Nat, n = S15.log.base + S15.log.l.length := ⟨_, rfl⟩
          obtain ⟨fr, hfr⟩ : ∃ n : Nat, n = S15.log.base + S15.log.l.length + 1 := ⟨_, rfl⟩
          have hw2 : IntKind.u64.wrap ((S15.log.base : Int) + (S15.log.l.length : Int)) = (lst : Int) := by rw [IntKind.wrap_u64]; omega
          have hw3 : IntKind.u64.wrap ((lst : Int) + 1) = (fr : Int) := by rw [IntKind.wrap_u64]; omega
          have hE : BxAt w16.heap.size (toldCells S15 (.slice acw S15.log.conf.length ccw) (.slice alw S15.log.l.length clw)) w24.drew := HKP4.out.box
          have hEa := hE.alloc (.cells #[.int .u64 1, .int .i64 1, .string { data := #[] }, .int .u64 1, .int .i64 3, .string { data := #[120] }] 50)
          have HCO : Hid (∀ W' : World, BxAt w16.heap.size (toldCells S15 (.slice acw S15.log.conf.length ccw) (.slice alw S15.log.l.length clw)) W' → W'.cell? ⟨w16.heap.size, 3, none⟩ = some (.int .u64 S15.log.base) ∧ W'.cell? ⟨w16.heap.size, 6, none⟩ = some (.slice alw S15.log.l.length clw)) := fun W' h => ⟨cell_in h 3 _ rfl, cell_in h 6 _ rfl⟩
          have HAP : Hid (Calls Try.prog 10 #[.pointer (some ⟨jj, 0, none⟩), .int .u64 fr, .slice (some ⟨w24.drew.heap.size, 0, none⟩) 2 2] (w24.drew.alloc (.cells #[.int .u64 1, .int .i64 1, .string { data := #[] }, .int .u64 1, .int .i64 3, .string { data := #[120] }] 50)) fun e W' => e = .returned (.int .i64 8) ∧ JnAfter w24.drew jj p G24 (d15.fuse 0) S15 W') :=
            hid (append_two (W := w24.drew) (HKP4.out.jn.below (Below.refl _ _).drew) HOK24.out HN24.out fr (by unfold top64; omega) (by have h1 := HL15.out; have h2 := (HG1.out (by first | trivial | rfl)).1; simp only [List.length_cons, List.length_nil] at h1; omega) (by rw [hfr]; exact off_append (fuse_off d15)))
          clear hlst hfr
          go_wp2_with fail
          go_region_held3 (fun W' => W'.cell? ⟨w16.heap.size, 3, none⟩ = some (.int .u64 S15.log.base) ∧ W'.cell? ⟨w16.heap.size, 6, none⟩ = some (.slice alw S15.log.l.length clw)) (first | exact HCO.out _ (by assumption))
            (first
            | (go_at_call 16; refine Calls.mono (two_any _) ?_; rintro e w25 ⟨rfl, rfl⟩)
            | (go_at_call 10; refine Calls.mono HAP.out ?_; rintro e w26 ⟨rfl, ha26⟩; obtain ⟨G26, hk26⟩ := HKP4.out.step (show JnAfter w24 jj p G24 (d15.fuse 0) S15 w26 from ha26); have hE6 : BxAt w16.heap.size (toldCells S15 (.slice acw S15.log.conf.length ccw) (.slice alw S15.log.l.length clw)) w26 := hk26.box; have HKP6 := hid hk26; clear hk26 ha26))
          clear hE hEa hE6 HAP HKP4 hw1 hw2 hw3 hbs HCO
          as_aux_lemma =>
          have HCO : Hid (∀ W' : World, BxAt w16.heap.size (toldCells S15 (.slice acw S15.log.conf.length ccw) (.slice alw S15.log.l.length clw)) W' → W'.cell? ⟨w16.heap.size, 0, none⟩ = some (.int .u64 S15.hard.term) ∧ W'.cell? ⟨w16.heap.size, 1, none⟩ = some (.int .i64 S15.hard.vote) ∧ W'.cell? ⟨w16.heap.size, 2, none⟩ = some (.int .u64 S15.hard.life) ∧ W'.cell? ⟨w16.heap.size, 3, none⟩ = some (.int .u64 S15.log.base) ∧ W'.cell? ⟨w16.heap.size, 4, none⟩ = some (.int .u64 S15.log.bterm) ∧ W'.cell? ⟨w16.heap.size, 5, none⟩ = some (.slice acw S15.log.conf.length ccw) ∧ W'.cell? ⟨w16.heap.size, 6, none⟩ = some (.slice alw S15.log.l.length clw) ∧ W'.cell? ⟨w16.heap.size, 7, none⟩ = some (.string (str S15.image))) := fun W' h => ⟨cell_in h 0 _ rfl, cell_in h 1 _ rfl, cell_in h 2 _ rfl, cell_in h 3 _ rfl, cell_in h 4 _ rfl, cell_in h 5 _ rfl, cell_in h 6 _ rfl, cell_in h 7 _ rfl⟩
          have hF : BxAt w16.heap.size (toldCells S15 (.slice acw S15.log.conf.length ccw) (.slice alw S15.log.l.length clw)) w26.drew := HKP6.out.box
          have hFa := hF.alloc (.cells #[.int .u64 1, .int .i64 1, .string { data := #[] }, .int .u64 1, .int .i64 3, .string { data := #[120] }] 50)
          have hslN : S15.log.l.length ≤ 900000 := by have h1 := HL15.out; have h2 := (HG1.out (by first | trivial | rfl)).1; simp only [List.length_cons, List.length_nil] at h1; omega
          have HAP : Hid (Calls Try.prog 10 #[.pointer (some ⟨jj, 0, none⟩), .int .u64 0, .slice (some ⟨w26.drew.heap.size, 0, none⟩) 2 2] (w26.drew.alloc (.cells #[.int .u64 1, .int .i64 1, .string { data := #[] }, .int .u64 1, .int .i64 3, .string { data := #[120] }] 50)) fun e W' => e = .returned (.int .i64 1) ∧ JnAfter w26.drew jj p G26 (d15.fuse 0) S15 W') :=
            hid (append_two (W := w26.drew) (HKP6.out.jn.below (Below.refl _ _).drew) HOK24.out HN24.out 0 (by decide) hslN zero_append)
          have HSV : Hid (∀ (W1 : World) (G1 : List Nat), JnAt W1 jj p G1 (d15.fuse 0) S15 → Calls Try.prog 9 #[.pointer (some ⟨jj, 0, none⟩), .agg #[.int .u64 0, .int .i64 6, .int .u64 0]] W1 fun e W' => e = .returned (.int .i64 1) ∧ JnAfter W1 jj p G1 (d15.fuse 0) S15 W') := hid (fun W1 G1 h => by
            have h2 := save_any h HOK24.out HN24.out 0 6 0 (by decide)
            rw [six_save] at h2
            exact h2)
          have HRB : Hid (∀ (W1 : World) (G1 : List Nat), JnAt W1 jj p G1 (d15.fuse 0) S15 → Calls Try.prog 11 #[.pointer (some ⟨jj, 0, none⟩), .agg #[.int .u64 0, .int .u64 0, .slice (some ⟨W1.heap.size, 0, none⟩) 2 2, .slice none 0 0], .string { data := #[] }] (W1.alloc (.cells #[.int .i64 2, .int .i64 1] 3)) fun e W' => e = .returned (.int .i64 1) ∧ JnAfter W1 jj p G1 (d15.fuse 0) S15 W') := hid (fun W1 G1 h => by
            have hb : Below W1.heap.size W1 (W1.alloc (.cells #[.int .i64 2, .int .i64 1] 3)) := (Below.refl _ _).alloc (Nat.le_refl _) _
            have h2 := rebase_any (h.below hb) HOK24.out HN24.out 0 0 [2, 1] [] [] _ _ (by decide) (by decide) (intCells W1 2 1) (Cells.nil _ _) (by decide) (by decide) (by simp) (by decide)
            refine h2.mono ?_
            rintro e W' ⟨he, ha⟩
            rw [two_rebase] at he ha
            exact ⟨he, JnAfter.trans (Turn.below hb) (fun _ h => .inl h) ha⟩)
          go_wp2_with fail
          go_region_held3 (fun W' => W'.cell? ⟨w16.heap.size, 0, none⟩ = some (.int .u64 S15.hard.term) ∧ W'.cell? ⟨w16.heap.size, 1, none⟩ = some (.int .i64 S15.hard.vote) ∧ W'.cell? ⟨w16.heap.size, 2, none⟩ = some (.int .u64 S15.hard.life) ∧ W'.cell? ⟨w16.heap.size, 3, none⟩ = some (.int .u64 S15.log.base) ∧ W'.cell? ⟨w16.heap.size, 4, none⟩ = some (.int .u64 S15.log.bterm) ∧ W'.cell? ⟨w16.heap.size, 5, none⟩ = some (.slice acw S15.log.conf.length ccw) ∧ W'.cell? ⟨w16.heap.size, 6, none⟩ = some (.slice alw S15.log.l.length clw) ∧ W'.cell? ⟨w16.heap.size, 7, none⟩ = some (.string (str S15.image))) (first | exact HCO.out _ (by assumption) | exact HCO.out _ (BxAt.alloc (by assumption) _))
            (first
            | (go_at_call 16; refine Calls.mono (two_any _) ?_; rintro e w27 ⟨rfl, rfl⟩)
            | (go_at_call 10; refine Calls.mono HAP.out ?_; rintro e w28 ⟨rfl, ha28⟩; obtain ⟨G28, hk28⟩ := HKP6.out.step (show JnAfter w26 jj p G26 (d15.fuse 0) S15 w28 from ha28); have hE8 : BxAt w16.heap.size (toldCells S15 (.slice acw S15.log.conf.length ccw) (.slice alw S15.log.l.length clw)) w28 := hk28.box; have HKP8 := hid hk28; clear hk28 ha28)
            | (go_at_call 9; refine Calls.mono (HSV.out _ _ HKP8.out.jn) ?_; rintro e w29 ⟨rfl, ha29⟩; obtain ⟨G29, hk29⟩ := HKP8.out.step ha29; have hE9 : BxAt w16.heap.size (toldCells S15 (.slice acw S15.log.conf.length ccw) (.slice alw S15.log.l.length clw)) w29 := hk29.box; have HKP9 := hid hk29; clear hk29 ha29)
            | (go_at_call 11; refine Calls.mono (HRB.out _ _ HKP9.out.jn) ?_; rintro e w30 ⟨rfl, ha30⟩; obtain ⟨G30, hk30⟩ := HKP9.out.step ha30; have hE30 : BxAt w16.heap.size (toldCells S15 (.slice acw S15.log.conf.length ccw) (.slice alw S15.log.l.length clw)) w30 := hk30.box; have HKP30 := hid hk30; clear hk30 ha30)
            | (go_at_call 8; refine Calls.mono (state_any HKP30.out.jn) ?_; rintro e w31 ⟨vc31, vl31, rfl, hr31, hq31, hb31⟩; obtain ⟨ac31, cc31, rfl⟩ := own_form hr31; obtain ⟨al31, cl31, rfl⟩ := own_form hq31; have hk31 := HKP30.out.below hb31; have hE31 : BxAt w16.heap.size (toldCells S15 (.slice acw S15.log.conf.length ccw) (.slice alw S15.log.l.length clw)) w31 := hk31.box; have HKP31 := hid hk31; have HR31 := hid hr31; have HQ31 := hid hq31; clear hk31 hr31 hq31 hb31)
            | (go_at_call 17; refine Calls.mono (lsame_eq (S := S15) (HKP31.out.2.2.1.sub (by simp)) (Cells.of_row HR31.out [] (by simp)) (HKP31.out.2.2.2.1.sub (by simp)) (Cells.of_row HQ31.out [] (by simp)) (by omega) (by omega)) ?_; rintro e w32 ⟨rfl, hb32⟩; have hk32 := HKP31.out.below hb32; have hE32 : BxAt w16.heap.size (toldCells S15 (.slice acw S15.log.conf.length ccw) (.slice alw S15.log.l.length clw)) w32 := hk32.box; have HKP32 := hid hk32; clear hk32 hb32))
          go_wp2_with fail
          go_ret
          exact ⟨rfl, HKP32.out.low⟩
    · as_aux_lemma =>
      go_wp2_with fail
      refine Calls.mono (alive_any _) ?_
      rintro e w4 ⟨rfl, hb4⟩
      have HB4 := hid (HB3.out.trans (hb4.mono HB3.out.size))
      clear hb4
      go_wp2_with fail
      go_ret
      exact ⟨rfl, HB4.out⟩
  · as_aux_lemma =>
    go_wp2_with fail
    refine Calls.mono (alive_any _) ?_
    rintro e w3 ⟨rfl, hb3⟩
    have HB3 := hid (HB2.out.trans (hb3.mono HB2.out.size))
    clear hb3
    go_wp2_with fail
    go_ret
    exact ⟨rfl, HB3.out⟩
end Go.Proofs.Ytmehcogaopackaa
