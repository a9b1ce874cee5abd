/-
  The walks of the reference's SameInts, SameEntries, SameLogs, Same and of the law's same, where both sides hold the same. (Several texts in one.)
-/
import Derived.Test.YtmehcogaopackaaGreatGJ
/- disk.New; the calls on a journal that is none, and Open of a disk that is none; the law's state. -/
namespace Go.Proofs.YtmehcogaopackaaGreat
open Go.RowKit
set_option linter.unusedVariables false
set_option linter.unusedSimpArgs false
set_option maxRecDepth 100000 in
set_option maxHeartbeats 2000000 in
theorem dnew_any (cap : Nat) (hc : cap ≤ 1048576) (W : World) :
    Calls Tryz.prog 6 #[.int .i64 (cap : Nat)] W fun e W' => ∃ p F, e = .returned (.tuple #[.pointer (some ⟨p, 0, none⟩), .int .i64 0]) ∧ DkAt W' p F (Ds.new cap) ∧ (∀ b ∈ F, W.heap.size ≤ b) ∧ Below W.heap.size W W' := by
  have h1 : ¬ ((cap : Int) < 0) := by omega
  have h2 : ¬ ((1048576 : Int) < (cap : Int)) := by omega
  have hmm : ∀ w : World, (Instr.makeMap 73 none).run Tryz.prog w = .ok (.map (some w.heap.size)) (w.alloc (.map #[] 0)) := fun w => by
    simp [go_sem, Instr.makeMap, Tryz.underlying73]
  have hb : Below W.heap.size W (((W.alloc (.map #[] 0)).alloc (.map #[] 0)).alloc (.cells (dkCells (Ds.new cap) W.heap.size (W.heap.size + 1) (.slice none 0 0)) 76)) := (((Below.refl _ _).alloc (Nat.le_refl _) _).alloc (by simp) _).alloc (by simp; omega) _
  have hd : DkAt (((W.alloc (.map #[] 0)).alloc (.map #[] 0)).alloc (.cells (dkCells (Ds.new cap) W.heap.size (W.heap.size + 1) (.slice none 0 0)) 76)) (W.heap.size + 2) [W.heap.size, W.heap.size + 1, W.heap.size + 2] (Ds.new cap) := by
    have m1 : MapAt (W.alloc (.map #[] 0)) W.heap.size none := MapAt.made W
    have m2 : MapAt ((W.alloc (.map #[] 0)).alloc (.map #[] 0)) (W.alloc (.map #[] 0)).heap.size none := MapAt.made _
    rw [World.size_alloc] at m2
    have m1' : MapAt ((W.alloc (.map #[] 0)).alloc (.map #[] 0)) W.heap.size none := m1.of_block (heap_alloc_old _ _ (by simp))
    have h3 := heap_alloc_new ((W.alloc (.map #[] 0)).alloc (.map #[] 0)) (.cells (dkCells (Ds.new cap) W.heap.size (W.heap.size + 1) (.slice none 0 0)) 76)
    rw [World.size_alloc, World.size_alloc] at h3
    refine ⟨W.heap.size, W.heap.size + 1, .slice none 0 0, [], h3, m1'.of_block (heap_alloc_old _ _ (by simp; omega)), m2.of_block (heap_alloc_old _ _ (by simp)), World.ownsRow_nil _ _ _ _, rfl, by omega, by simp, by simp, by simp, (fun r hr => by cases hr), ?_⟩
    intro b hb
    simp only [List.mem_cons, List.not_mem_nil, or_false] at hb
    rw [World.size_alloc, World.size_alloc, World.size_alloc]
    omega
  have HB := hid hb
  have HD := hid hd
  clear hb hd
  go_enter Tryz.func6, Tryz.ntmps6
  go_wp2_with fail
  go_ret2
  exact ⟨W.heap.size + 2, rfl, [W.heap.size, W.heap.size + 1, W.heap.size + 2], HD.out, (by simp), HB.out⟩
set_option maxRecDepth 100000 in
set_option maxHeartbeats 2000000 in
theorem jopen_nil (W : World) : Calls Tryz.prog 12 #[.pointer none] W fun e W' => e = .returned (.tuple #[.pointer none, .int .i64 1]) ∧ Below W.heap.size W W' := by
  go_enter Tryz.func12, Tryz.ntmps12
  go_wp2
  go_ret2
  exact ⟨rfl, Below.refl _ _⟩
set_option maxRecDepth 100000 in
set_option maxHeartbeats 2000000 in
theorem jsave_nil (term : Nat) (vote : Int) (life : Nat) (W : World) : Calls Tryz.prog 26 #[.pointer none, .agg #[.int .u64 term, .int .i64 vote, .int .u64 life]] W fun e W' => e = .returned (.int .i64 1) ∧ Below W.heap.size W W' := by
  have hb : Below W.heap.size W (W.alloc (.cells #[.int .u64 term, .int .i64 vote, .int .u64 life] 45)) := (Below.refl _ _).alloc (Nat.le_refl _) _
  have HB := hid hb
  clear hb
  go_enter Tryz.func26, Tryz.ntmps26
  go_wp2_with fail
  go_ret
  exact ⟨rfl, HB.out⟩
set_option maxRecDepth 100000 in
set_option maxHeartbeats 2000000 in
theorem jappend_nil (W : World) : Calls Tryz.prog 24 #[.pointer none, .int .u64 1, .slice none 0 0] W fun e W' => e = .returned (.int .i64 1) ∧ Below W.heap.size W W' := by
  go_enter Tryz.func24, Tryz.ntmps24
  go_wp2_with fail
  go_ret
  exact ⟨rfl, Below.refl _ _⟩
set_option maxRecDepth 100000 in
set_option maxHeartbeats 2000000 in
theorem jrebase_nil (base bterm : Nat) (ac al : Option Addr) (n1 n2 c1 c2 : Nat) (W : World) : Calls Tryz.prog 61 #[.pointer none, .agg #[.int .u64 base, .int .u64 bterm, .slice ac n1 c1, .slice al n2 c2], .string { data := #[] }] W fun e W' => e = .returned (.int .i64 1) ∧ Below W.heap.size W W' := by
  have hb : Below W.heap.size W (W.alloc (.cells #[.int .u64 base, .int .u64 bterm, .slice ac n1 c1, .slice al n2 c2] 49)) := (Below.refl _ _).alloc (Nat.le_refl _) _
  have HB := hid hb
  clear hb
  go_enter Tryz.func61, Tryz.ntmps61
  go_wp2_with fail
  go_ret
  exact ⟨rfl, HB.out⟩
set_option maxRecDepth 100000 in
set_option maxHeartbeats 2000000 in
theorem jhard_nil (W : World) : Calls Tryz.prog 23 #[.pointer none] W fun e W' => e = .returned (.agg #[.int .u64 0, .int .i64 0, .int .u64 0]) ∧ Below W.heap.size W W' := by
  have HK := hid (heap_alloc_new W (.cells #[.int .u64 0, .int .i64 0, .int .u64 0] 45))
  have HB : Hid (Below W.heap.size W (W.alloc (.cells #[.int .u64 0, .int .i64 0, .int .u64 0] 45))) := (Below.refl _ _).alloc (Nat.le_refl _) _
  go_enter Tryz.func23, Tryz.ntmps23
  go_wp2_with fail
  exact ⟨rfl, _, results_cell_row rfl _ _ W.heap.size _ _ (0, 0) _ rfl HK.out Tryz.underlying45 rfl sizeHard, rfl, HB.out⟩
set_option maxRecDepth 100000 in
set_option maxHeartbeats 2000000 in
theorem jlog_nil (W : World) : Calls Tryz.prog 28 #[.pointer none] W fun e W' => e = .returned (.agg #[.int .u64 0, .int .u64 0, .slice none 0 0, .slice none 0 0]) ∧ Below W.heap.size W W' := by
  have HK := hid (heap_alloc_new W (.cells #[.int .u64 0, .int .u64 0, .slice none 0 0, .slice none 0 0] 49))
  have HB : Hid (Below W.heap.size W (W.alloc (.cells #[.int .u64 0, .int .u64 0, .slice none 0 0, .slice none 0 0] 49))) := (Below.refl _ _).alloc (Nat.le_refl _) _
  go_enter Tryz.func28, Tryz.ntmps28
  go_wp2_with fail
  exact ⟨rfl, _, results_cell_row rfl _ _ W.heap.size _ _ (0, 0) _ rfl HK.out Tryz.underlying49 rfl sizeLog, rfl, HB.out⟩
set_option maxRecDepth 100000 in
set_option maxHeartbeats 2000000 in
theorem jimage_nil (W : World) : Calls Tryz.prog 29 #[.pointer none] W fun e W' => e = .returned (.string { data := #[] }) ∧ Below W.heap.size W W' := by
  go_enter Tryz.func29, Tryz.ntmps29
  go_wp2_with fail
  go_ret
  exact ⟨rfl, Below.refl _ _⟩
end Go.Proofs.YtmehcogaopackaaGreat
/- The walk of the law's state, of a journal and of none. -/
namespace Go.Proofs.YtmehcogaopackaaGreat
open Go.RowKit
set_option linter.unusedVariables false
set_option linter.unusedSimpArgs false
/-- the cells of what a journal tells -/
def toldCells (S : Js) (vc vl : Value) : Array Value := #[.int .u64 S.hard.term, .int .i64 S.hard.vote, .int .u64 S.hard.life, .int .u64 S.log.base, .int .u64 S.log.bterm, vc, vl, .string (str S.image)]
def toldZ : Array Value := #[.int .u64 0, .int .i64 0, .int .u64 0, .int .u64 0, .int .u64 0, .slice none 0 0, .slice none 0 0, .string { data := #[] }]
theorem sizeTold : (Tryz.prog.info? 51).map (·.size) = some 8 := by kernel_rfl
set_option maxRecDepth 100000 in
set_option maxHeartbeats 4000000 in
theorem state_any {W : World} {j p : Nat} {G : List Nat} {d : Ds} {S : Js} (h : JnAt W j p G d S) :
    Calls Tryz.prog 16 #[.pointer (some ⟨j, 0, none⟩)] W fun e W' => ∃ vc vl, e = .returned (.agg (toldCells S vc vl)) ∧
      W'.ownsRow W.heap.size 3 1 vc S.log.conf.length (intVals S.log.conf) ∧ W'.ownsRow W.heap.size 116 3 vl S.log.l.length (enVals S.log.l) ∧ Below W.heap.size W W' := by
  have hba : Below W.heap.size W (W.alloc (.cells toldZ 51)) := (Below.refl _ _).alloc (Nat.le_refl _) _
  have HB := hid hba
  have HK := hid (heap_alloc_new W (.cells toldZ 51))
  have H := hid (h.below hba)
  clear h hba
  go_enter Tryz.func16, Tryz.ntmps16
  go_wp2_with fail
  rw [show #[Value.int IntKind.u64 0, Value.int IntKind.i64 0, Value.int IntKind.u64 0, Value.int IntKind.u64 0, Value.int IntKind.u64 0, Value.slice none 0 0, Value.slice none 0 0, Value.string { data := #[] }] = toldZ from rfl]
  have HW0 : Hid ((W.alloc (.cells toldZ 51)).heap.size = W.heap.size + 1) := hid (World.size_alloc _ _)
  generalize W.alloc (.cells toldZ 51) = W1 at *
  refine Calls.mono (jhard_any H.out) ?_
  rintro e w2 ⟨rfl, hb2⟩
  have H2 := hid (H.out.below hb2)
  have HB2 := hid (HB.out.trans (hb2.mono HB.out.size))
  have HK2 := hid (blk_below HK.out hb2)
  clear hb2
  go_wp2_with fail
  refine Calls.mono (jlog_any H2.out) ?_
  rintro e w3 ⟨vc, vl, rfl, hr1, hr2, hb3⟩
  obtain ⟨ac, cc, rfl⟩ := own_form hr1
  obtain ⟨al, cl, rfl⟩ := own_form hr2
  have H3 := hid (H2.out.below hb3)
  have HZ2 : Hid (W.heap.size < w2.heap.size) := (Array.getElem?_eq_some_iff.1 HK2.out).1
  have HB3 := hid (HB2.out.trans (hb3.mono HB2.out.size))
  have HK3 := hid (blk_below HK2.out hb3)
  have HR1 := hid hr1
  have HR2 := hid hr2
  clear hb3 hr1 hr2 H2
  go_wp2_with fail
  refine Calls.mono (jimage_any H3.out) ?_
  rintro e w4 ⟨rfl, hb4⟩
  have HB4 := hid (HB3.out.trans (hb4.mono HB3.out.size))
  have HK4 := hid (blk_below HK3.out hb4)
  have HR14 := hid (ownsRow_of_block HR1.out fun r hr => hb4.block r (HR1.out.lt r hr).2)
  have HR24 := hid (ownsRow_of_block HR2.out fun r hr => hb4.block r (HR2.out.lt r hr).2)
  have HK5 := hid (setRow_heap _ _ _ (toldCells S (.slice ac S.log.conf.length cc) (.slice al S.log.l.length cl)) _ (0, 0) HK4.out)
  clear hb4 H3
  go_wp2_with (refine wpList_store_row rfl 51 _ _ rfl W.heap.size (toldCells S (.slice ac S.log.conf.length cc) (.slice al S.log.l.length cl)) (by rfl) (by rfl) 51 _ HK4.out sizeTold rfl (by simp [toldCells, Value.oneCell']) ?_)
  have hk : Kept2 W.heap.size W.heap.size w4 (w4.setRow W.heap.size (toldCells S (.slice ac S.log.conf.length cc) (.slice al S.log.l.length cl))) := (Kept2.refl _ _ _).row _
  have n1 := own_ne HR14.out HK4.out (fun cur e => by cases e)
  have n2 := own_ne HR24.out HK4.out (fun cur e => by cases e)
  have hz := HZ2.out
  exact ⟨rfl, _, results_cell_row rfl _ _ W.heap.size _ _ (0, 0) _ rfl HK5.out Tryz.underlying51 rfl sizeTold, _, _, rfl, ownsRow_mono (row_kept2 HR14.out hk n1 n1) (by omega), ownsRow_mono (row_kept2 HR24.out hk n2 n2) (by omega), below_row HB4.out (Nat.le_refl _) _⟩
set_option maxRecDepth 100000 in
set_option maxHeartbeats 4000000 in
theorem state_nil (W : World) : Calls Tryz.prog 16 #[.pointer none] W fun e W' => e = .returned (.agg toldZ) ∧ Below W.heap.size W W' := by
  have hba : Below W.heap.size W (W.alloc (.cells toldZ 51)) := (Below.refl _ _).alloc (Nat.le_refl _) _
  have HB := hid hba
  have HK := hid (heap_alloc_new W (.cells toldZ 51))
  clear hba
  go_enter Tryz.func16, Tryz.ntmps16
  go_wp2_with fail
  rw [show #[Value.int IntKind.u64 0, Value.int IntKind.i64 0, Value.int IntKind.u64 0, Value.int IntKind.u64 0, Value.int IntKind.u64 0, Value.slice none 0 0, Value.slice none 0 0, Value.string { data := #[] }] = toldZ from rfl]
  generalize W.alloc (.cells toldZ 51) = W1 at *
  refine Calls.mono (jhard_nil W1) ?_
  rintro e w2 ⟨rfl, hb2⟩
  have HB2 := hid (HB.out.trans (hb2.mono HB.out.size))
  have HK2 := hid (blk_below HK.out hb2)
  clear hb2
  go_wp2_with fail
  refine Calls.mono (jlog_nil w2) ?_
  rintro e w3 ⟨rfl, hb3⟩
  have HB3 := hid (HB2.out.trans (hb3.mono HB2.out.size))
  have HK3 := hid (blk_below HK2.out hb3)
  clear hb3
  go_wp2_with fail
  refine Calls.mono (jimage_nil w3) ?_
  rintro e w4 ⟨rfl, hb4⟩
  have HB4 := hid (HB3.out.trans (hb4.mono HB3.out.size))
  have HK4 := hid (blk_below HK3.out hb4)
  have HK5 := hid (setRow_heap _ _ _ toldZ _ (0, 0) HK4.out)
  clear hb4
  go_wp2_with (refine wpList_store_row rfl 51 _ _ rfl W.heap.size toldZ (by rfl) (by rfl) 51 _ HK4.out sizeTold rfl (by simp [toldZ, Value.oneCell']) ?_)
  exact ⟨rfl, _, results_cell_row rfl _ _ W.heap.size _ _ (0, 0) _ rfl HK5.out Tryz.underlying51 rfl sizeTold, rfl, below_row HB4.out (Nat.le_refl _) _⟩
end Go.Proofs.YtmehcogaopackaaGreat
/- The walks of the reference's SameInts, SameEntries, SameLogs, Same and of the law's same, where both sides hold the same. -/
namespace Go.Proofs.YtmehcogaopackaaGreat
open Go.RowKit
set_option linter.unusedVariables false
set_option linter.unusedSimpArgs false
theorem intVals_get (l : List Int) (q : Nat) (h : q < l.length) : (intVals l)[q]? = some (.int .i64 l[q]) := by simp [intVals, h]
set_option maxRecDepth 100000 in
set_option maxHeartbeats 4000000 in
theorem sameInts_eq {W : World} {v1 v2 : Value} {l : List Int} (h1 : Cells [] W v1 l.length (intVals l)) (h2 : Cells [] W v2 l.length (intVals l)) (hl : l.length ≤ 1000000) :
    Calls Tryz.prog 97 #[v1, v2] W fun e W' => e = .returned (.bool true) ∧ Below W.heap.size W W' := by
  obtain ⟨a1, k1, rfl⟩ := h1.form
  obtain ⟨a2, k2, rfl⟩ := h2.form
  obtain ⟨_, hc1, hx1⟩ := h1.at
  obtain ⟨_, hc2, hx2⟩ := h2.at
  have HX1 := hid hx1
  have HX2 := hid hx2
  clear hx1 hx2 h1 h2
  go_enter Tryz.func97, Tryz.ntmps97
  go_wp2_with fail
  go_loopw [5] (fun i wr => ∃ q : Nat, i = .int .i64 q ∧ q ≤ l.length ∧ Below W.heap.size W wr) (fun i _ => l.length - (intOf i).toNat)
  case atStart => exact ⟨0, rfl, Nat.zero_le _, Below.refl _ _⟩
  case round =>
    obtain ⟨q, rfl, hq, hb⟩ := hrel
    have HB := hid hb
    have HBD : Hid (Below W.heap.size W wr.drew) := hid hb.drew
    clear hb
    by_cases hlt : q < l.length
    · obtain ⟨b1, o1, rfl, hcell1⟩ := HX1.out (by rw [intVals_len]; omega)
      obtain ⟨b2, o2, rfl, hcell2⟩ := HX2.out (by rw [intVals_len]; omega)
      have e1 := hcell1 wr.drew HBD.out _ _ (intVals_get l q hlt)
      have e2 := hcell2 wr.drew HBD.out _ _ (intVals_get l q hlt)
      clear hcell1 hcell2
      generalize l[q] = n at *
      go_wp2_with fail
      go_region
      go_wp2_with fail
      go_roundw
      case rel => exact ⟨q + 1, by go_num, by omega, HBD.out⟩
      case measure => simp [intOf]; omega
    · obtain rfl : q = l.length := by omega
      go_wp2_with fail
      go_ret
      exact ⟨rfl, HB.out⟩
set_option maxRecDepth 100000 in
set_option maxHeartbeats 4000000 in
theorem sameEntries_eq {W : World} {v1 v2 : Value} {l : List En} (h1 : Cells [] W v1 l.length (enVals l)) (h2 : Cells [] W v2 l.length (enVals l)) (hl : l.length ≤ 1000000) :
    Calls Tryz.prog 27 #[v1, v2] W fun e W' => e = .returned (.bool true) ∧ Below W.heap.size W W' := by
  obtain ⟨a1, k1, rfl⟩ := h1.form
  obtain ⟨a2, k2, rfl⟩ := h2.form
  obtain ⟨_, hc1, hx1⟩ := h1.at
  obtain ⟨_, hc2, hx2⟩ := h2.at
  have HX1 := hid hx1
  have HX2 := hid hx2
  clear hx1 hx2 h1 h2
  go_enter Tryz.func27, Tryz.ntmps27
  go_wp2_with fail
  go_loopw [5] (fun i wr => ∃ q : Nat, i = .int .i64 q ∧ q ≤ l.length ∧ Below W.heap.size W wr) (fun i _ => l.length - (intOf i).toNat)
  case atStart => exact ⟨0, rfl, Nat.zero_le _, Below.refl _ _⟩
  case round =>
    obtain ⟨q, rfl, hq, hb⟩ := hrel
    have HB := hid hb
    have HBD : Hid (Below W.heap.size W wr.drew) := hid hb.drew
    clear hb
    by_cases hlt : q < l.length
    · obtain ⟨b1, o1, rfl, hcell1⟩ := HX1.out (by rw [enVals_len]; omega)
      obtain ⟨b2, o2, rfl, hcell2⟩ := HX2.out (by rw [enVals_len]; omega)
      have he := enVals_cell l q hlt
      have e10 := hcell1 wr.drew HBD.out _ _ he.1
      have e11 := hcell1 wr.drew HBD.out _ _ he.2.1
      have e12 := hcell1 wr.drew HBD.out _ _ he.2.2
      have e20 := hcell2 wr.drew HBD.out _ _ he.1
      have e21 := hcell2 wr.drew HBD.out _ _ he.2.1
      have e22 := hcell2 wr.drew HBD.out _ _ he.2.2
      have m1 : o1 + q * 3 = o1 + 3 * q := by omega
      have m2 : o2 + q * 3 = o2 + 3 * q := by omega
      have m11 : o1 + 3 * q + 1 = o1 + (3 * q + 1) := by omega
      have m12 : o1 + 3 * q + 2 = o1 + (3 * q + 2) := by omega
      have m21 : o2 + 3 * q + 1 = o2 + (3 * q + 1) := by omega
      have m22 : o2 + 3 * q + 2 = o2 + (3 * q + 2) := by omega
      clear hcell1 hcell2 he
      generalize l[q] = x at *
      go_wp2_with fail
      go_region
      go_wp2_with fail
      go_roundw
      case rel => exact ⟨q + 1, by go_num, by omega, HBD.out⟩
      case measure => simp [intOf]; omega
    · obtain rfl : q = l.length := by omega
      go_wp2_with fail
      go_ret
      exact ⟨rfl, HB.out⟩
/-- two boxes -/
theorem two_boxes (W : World) (t : TypeId) (x y : Array Value) : Below W.heap.size W ((W.alloc (.cells x t)).alloc (.cells y t)) ∧ ((W.alloc (.cells x t)).alloc (.cells y t)).heap[W.heap.size]? = some (.cells x t) ∧ ((W.alloc (.cells x t)).alloc (.cells y t)).heap[W.heap.size + 1]? = some (.cells y t) := by
  refine ⟨((Below.refl _ _).alloc (Nat.le_refl _) _).alloc (by simp) _, blk_below (heap_alloc_new W _) ((Below.refl _ _).alloc (Nat.le_refl _) _), ?_⟩
  have h := heap_alloc_new (W.alloc (.cells x t)) (.cells y t)
  rw [World.size_alloc] at h
  exact h
set_option maxRecDepth 100000 in
set_option maxHeartbeats 4000000 in
theorem sameLogs_eq {W : World} {base bterm : Nat} {vc1 vc2 vl1 vl2 : Value} {conf : List Int} {l : List En} (h1 : Cells [] W vc1 conf.length (intVals conf)) (h2 : Cells [] W vc2 conf.length (intVals conf)) (h3 : Cells [] W vl1 l.length (enVals l)) (h4 : Cells [] W vl2 l.length (enVals l)) (hc : conf.length ≤ 1000000) (hl : l.length ≤ 1000000) :
    Calls Tryz.prog 57 #[.agg #[.int .u64 base, .int .u64 bterm, vc1, vl1], .agg #[.int .u64 base, .int .u64 bterm, vc2, vl2]] W fun e W' => e = .returned (.bool true) ∧ Below W.heap.size W W' := by
  obtain ⟨a1, k1, rfl⟩ := h1.form
  obtain ⟨a2, k2, rfl⟩ := h2.form
  obtain ⟨a3, k3, rfl⟩ := h3.form
  obtain ⟨a4, k4, rfl⟩ := h4.form
  obtain ⟨hb, hk1, hk2⟩ := two_boxes W 49 #[.int .u64 base, .int .u64 bterm, .slice a1 conf.length k1, .slice a3 l.length k3] #[.int .u64 base, .int .u64 bterm, .slice a2 conf.length k2, .slice a4 l.length k4]
  have HB := hid hb
  have H1 := hid (h1.below hb)
  have H2 := hid (h2.below hb)
  have H3 := hid (h3.below hb)
  have H4 := hid (h4.below hb)
  have p0 := cell_in hk1 0 (.int .u64 base) rfl
  have p1 := cell_in hk1 1 (.int .u64 bterm) rfl
  have p2 := cell_in hk1 2 (.slice a1 conf.length k1) rfl
  have q0 := cell_in hk2 0 (.int .u64 base) rfl
  have q1 := cell_in hk2 1 (.int .u64 bterm) rfl
  have q2 := cell_in hk2 2 (.slice a2 conf.length k2) rfl
  have HK1 := hid hk1
  have HK2 := hid hk2
  clear hb hk1 hk2 h1 h2 h3 h4
  go_enter Tryz.func57, Tryz.ntmps57
  go_wp2_with fail
  generalize (W.alloc (.cells #[.int .u64 base, .int .u64 bterm, .slice a1 conf.length k1, .slice a3 l.length k3] 49)).alloc (.cells #[.int .u64 base, .int .u64 bterm, .slice a2 conf.length k2, .slice a4 l.length k4] 49) = W2 at *
  refine Calls.mono (sameInts_eq H1.out H2.out hc) ?_
  rintro e w3 ⟨rfl, hb3⟩
  have p3 := cell_in (blk_below HK1.out hb3) 3 (.slice a3 l.length k3) rfl
  have q3 := cell_in (blk_below HK2.out hb3) 3 (.slice a4 l.length k4) rfl
  have H33 := hid (H3.out.below hb3)
  have H43 := hid (H4.out.below hb3)
  have HB3 := hid (HB.out.trans (hb3.mono HB.out.size))
  clear hb3 p0 p1 p2 q0 q1 q2
  go_wp2_with fail
  refine Calls.mono (sameEntries_eq H33.out H43.out hl) ?_
  rintro e w4 ⟨rfl, hb4⟩
  have HB4 := hid (HB3.out.trans (hb4.mono HB3.out.size))
  clear hb4
  go_wp2_with fail
  go_ret
  exact ⟨rfl, HB4.out⟩
/-- two tellings that hold the same state -/
def Told (W : World) (S : Js) (v : Value) : Prop := ∃ vc vl, v = .agg (toldCells S vc vl) ∧ Cells [] W vc S.log.conf.length (intVals S.log.conf) ∧ Cells [] W vl S.log.l.length (enVals S.log.l)
set_option maxRecDepth 100000 in
set_option maxHeartbeats 4000000 in
theorem rsame_eq {W : World} {S : Js} {vc1 vc2 vl1 vl2 : Value} (h1 : Cells [] W vc1 S.log.conf.length (intVals S.log.conf)) (h2 : Cells [] W vc2 S.log.conf.length (intVals S.log.conf)) (h3 : Cells [] W vl1 S.log.l.length (enVals S.log.l)) (h4 : Cells [] W vl2 S.log.l.length (enVals S.log.l)) (hc : S.log.conf.length ≤ 1000000) (hl : S.log.l.length ≤ 1000000) :
    Calls Tryz.prog 15 #[.agg (toldCells S vc1 vl1), .agg (toldCells S vc2 vl2)] W fun e W' => e = .returned (.bool true) ∧ Below W.heap.size W W' := by
  obtain ⟨a1, k1, rfl⟩ := h1.form
  obtain ⟨a2, k2, rfl⟩ := h2.form
  obtain ⟨a3, k3, rfl⟩ := h3.form
  obtain ⟨a4, k4, rfl⟩ := h4.form
  obtain ⟨⟨t, v, lf⟩, ⟨base, bterm, conf, l⟩, image⟩ := S
  simp only at h1 h2 h3 h4 hc hl ⊢
  show Calls _ _ #[.agg #[.int .u64 t, .int .i64 v, .int .u64 lf, .int .u64 base, .int .u64 bterm, .slice a1 conf.length k1, .slice a3 l.length k3, .string (str image)], .agg #[.int .u64 t, .int .i64 v, .int .u64 lf, .int .u64 base, .int .u64 bterm, .slice a2 conf.length k2, .slice a4 l.length k4, .string (str image)]] _ _
  obtain ⟨hb, hk1, hk2⟩ := two_boxes W 51 #[.int .u64 t, .int .i64 v, .int .u64 lf, .int .u64 base, .int .u64 bterm, .slice a1 conf.length k1, .slice a3 l.length k3, .string (str image)] #[.int .u64 t, .int .i64 v, .int .u64 lf, .int .u64 base, .int .u64 bterm, .slice a2 conf.length k2, .slice a4 l.length k4, .string (str image)]
  have HB := hid hb
  have HL := hid (sameLogs_eq (base := base) (bterm := bterm) (h1.below hb) (h2.below hb) (h3.below hb) (h4.below hb) hc hl)
  have HK1 := hid hk1
  have HK2 := hid hk2
  have p0 := cell_in hk1 0 (.int .u64 t) rfl
  have p1 := cell_in hk1 1 (.int .i64 v) rfl
  have p2 := cell_in hk1 2 (.int .u64 lf) rfl
  have p3 := cell_in hk1 3 (.int .u64 base) rfl
  have p4 := cell_in hk1 4 (.int .u64 bterm) rfl
  have p5 := cell_in hk1 5 (.slice a1 conf.length k1) rfl
  have p6 := cell_in hk1 6 (.slice a3 l.length k3) rfl
  have q0 := cell_in hk2 0 (.int .u64 t) rfl
  have q1 := cell_in hk2 1 (.int .i64 v) rfl
  have q2 := cell_in hk2 2 (.int .u64 lf) rfl
  have q3 := cell_in hk2 3 (.int .u64 base) rfl
  have q4 := cell_in hk2 4 (.int .u64 bterm) rfl
  have q5 := cell_in hk2 5 (.slice a2 conf.length k2) rfl
  have q6 := cell_in hk2 6 (.slice a4 l.length k4) rfl
  clear hb hk1 hk2 h1 h2 h3 h4
  go_enter Tryz.func15, Tryz.ntmps15
  go_wp2_with fail
  generalize (W.alloc (.cells #[.int .u64 t, .int .i64 v, .int .u64 lf, .int .u64 base, .int .u64 bterm, .slice a1 conf.length k1, .slice a3 l.length k3, .string (str image)] 51)).alloc (.cells #[.int .u64 t, .int .i64 v, .int .u64 lf, .int .u64 base, .int .u64 bterm, .slice a2 conf.length k2, .slice a4 l.length k4, .string (str image)] 51) = W2 at *
  refine Calls.mono HL.out ?_
  rintro e w3 ⟨rfl, hb3⟩
  have p7 := cell_in (blk_below HK1.out hb3) 7 (.string (str image)) rfl
  have q7 := cell_in (blk_below HK2.out hb3) 7 (.string (str image)) rfl
  have HB3 := hid (HB.out.trans (hb3.mono HB.out.size))
  clear hb3 p0 p1 p2 p3 p4 p5 p6 q0 q1 q2 q3 q4 q5 q6
  go_wp2_with fail
  go_ret
  exact ⟨rfl, HB3.out⟩
end Go.Proofs.YtmehcogaopackaaGreat
