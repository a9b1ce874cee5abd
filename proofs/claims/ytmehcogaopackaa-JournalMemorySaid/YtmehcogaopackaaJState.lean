/-
  The walk of the law's state, of a journal and of none.
-/
import Derived.Test.YtmehcogaopackaaJNil
namespace Go.Proofs.Ytmehcogaopackaa
open Go.RowKit
set_option linter.unusedVariables false
set_option linter.unusedSimpArgs false
/-- the cells of what a journal tells -/
def toldCells (S : Js) (vc vl : Value) : Array Value := #[.int .u64 S.hard.term, .int .i64 S.hard.vote, .int .u64 S.hard.life, .int .u64 S.log.base, .int .u64 S.log.bterm, vc, vl, .string (str S.image)]
def toldZ : Array Value := #[.int .u64 0, .int .i64 0, .int .u64 0, .int .u64 0, .int .u64 0, .slice none 0 0, .slice none 0 0, .string { data := #[] }]
theorem sizeTold : (Try.prog.info? 40).map (·.size) = some 8 := by kernel_rfl
set_option maxRecDepth 100000 in
set_option maxHeartbeats 4000000 in
theorem state_any {W : World} {j p : Nat} {G : List Nat} {d : Ds} {S : Js} (h : JnAt W j p G d S) :
    Calls Try.prog 8 #[.pointer (some ⟨j, 0, none⟩)] W fun e W' => ∃ vc vl, e = .returned (.agg (toldCells S vc vl)) ∧
      W'.ownsRow W.heap.size 3 1 vc S.log.conf.length (intVals S.log.conf) ∧ W'.ownsRow W.heap.size 50 3 vl S.log.l.length (enVals S.log.l) ∧ Below W.heap.size W W' := by
  have hba : Below W.heap.size W (W.alloc (.cells toldZ 40)) := (Below.refl _ _).alloc (Nat.le_refl _) _
  have HB := hid hba
  have HK := hid (heap_alloc_new W (.cells toldZ 40))
  have H := hid (h.below hba)
  clear h hba
  go_enter Try.func8, Try.ntmps8
  go_wp2_with fail
  rw [show #[Value.int IntKind.u64 0, Value.int IntKind.i64 0, Value.int IntKind.u64 0, Value.int IntKind.u64 0, Value.int IntKind.u64 0, Value.slice none 0 0, Value.slice none 0 0, Value.string { data := #[] }] = toldZ from rfl]
  have HW0 : Hid ((W.alloc (.cells toldZ 40)).heap.size = W.heap.size + 1) := hid (World.size_alloc _ _)
  generalize W.alloc (.cells toldZ 40) = W1 at *
  refine Calls.mono (jhard_any H.out) ?_
  rintro e w2 ⟨rfl, hb2⟩
  have H2 := hid (H.out.below hb2)
  have HB2 := hid (HB.out.trans (hb2.mono HB.out.size))
  have HK2 := hid (blk_below HK.out hb2)
  clear hb2
  go_wp2_with fail
  refine Calls.mono (jlog_any H2.out) ?_
  rintro e w3 ⟨vc, vl, rfl, hr1, hr2, hb3⟩
  obtain ⟨ac, cc, rfl⟩ := own_form hr1
  obtain ⟨al, cl, rfl⟩ := own_form hr2
  have H3 := hid (H2.out.below hb3)
  have HZ2 : Hid (W.heap.size < w2.heap.size) := (Array.getElem?_eq_some_iff.1 HK2.out).1
  have HB3 := hid (HB2.out.trans (hb3.mono HB2.out.size))
  have HK3 := hid (blk_below HK2.out hb3)
  have HR1 := hid hr1
  have HR2 := hid hr2
  clear hb3 hr1 hr2 H2
  go_wp2_with fail
  refine Calls.mono (jimage_any H3.out) ?_
  rintro e w4 ⟨rfl, hb4⟩
  have HB4 := hid (HB3.out.trans (hb4.mono HB3.out.size))
  have HK4 := hid (blk_below HK3.out hb4)
  have HR14 := hid (ownsRow_of_block HR1.out fun r hr => hb4.block r (HR1.out.lt r hr).2)
  have HR24 := hid (ownsRow_of_block HR2.out fun r hr => hb4.block r (HR2.out.lt r hr).2)
  have HK5 := hid (setRow_heap _ _ _ (toldCells S (.slice ac S.log.conf.length cc) (.slice al S.log.l.length cl)) _ (0, 0) HK4.out)
  clear hb4 H3
  go_wp2_with (refine wpList_store_row rfl 40 _ _ rfl W.heap.size (toldCells S (.slice ac S.log.conf.length cc) (.slice al S.log.l.length cl)) (by rfl) (by rfl) 40 _ HK4.out sizeTold rfl (by simp [toldCells, Value.oneCell']) ?_)
  have hk : Kept2 W.heap.size W.heap.size w4 (w4.setRow W.heap.size (toldCells S (.slice ac S.log.conf.length cc) (.slice al S.log.l.length cl))) := (Kept2.refl _ _ _).row _
  have n1 := own_ne HR14.out HK4.out (fun cur e => by cases e)
  have n2 := own_ne HR24.out HK4.out (fun cur e => by cases e)
  have hz := HZ2.out
  exact ⟨rfl, _, results_cell_row rfl _ _ W.heap.size _ _ (0, 0) _ rfl HK5.out Try.underlying40 rfl sizeTold, _, _, rfl, ownsRow_mono (row_kept2 HR14.out hk n1 n1) (by omega), ownsRow_mono (row_kept2 HR24.out hk n2 n2) (by omega), below_row HB4.out (Nat.le_refl _) _⟩
set_option maxRecDepth 100000 in
set_option maxHeartbeats 4000000 in
theorem state_nil (W : World) : Calls Try.prog 8 #[.pointer none] W fun e W' => e = .returned (.agg toldZ) ∧ Below W.heap.size W W' := by
  have hba : Below W.heap.size W (W.alloc (.cells toldZ 40)) := (Below.refl _ _).alloc (Nat.le_refl _) _
  have HB := hid hba
  have HK := hid (heap_alloc_new W (.cells toldZ 40))
  clear hba
  go_enter Try.func8, Try.ntmps8
  go_wp2_with fail
  rw [show #[Value.int IntKind.u64 0, Value.int IntKind.i64 0, Value.int IntKind.u64 0, Value.int IntKind.u64 0, Value.int IntKind.u64 0, Value.slice none 0 0, Value.slice none 0 0, Value.string { data := #[] }] = toldZ from rfl]
  generalize W.alloc (.cells toldZ 40) = W1 at *
  refine Calls.mono (jhard_nil W1) ?_
  rintro e w2 ⟨rfl, hb2⟩
  have HB2 := hid (HB.out.trans (hb2.mono HB.out.size))
  have HK2 := hid (blk_below HK.out hb2)
  clear hb2
  go_wp2_with fail
  refine Calls.mono (jlog_nil w2) ?_
  rintro e w3 ⟨rfl, hb3⟩
  have HB3 := hid (HB2.out.trans (hb3.mono HB2.out.size))
  have HK3 := hid (blk_below HK2.out hb3)
  clear hb3
  go_wp2_with fail
  refine Calls.mono (jimage_nil w3) ?_
  rintro e w4 ⟨rfl, hb4⟩
  have HB4 := hid (HB3.out.trans (hb4.mono HB3.out.size))
  have HK4 := hid (blk_below HK3.out hb4)
  have HK5 := hid (setRow_heap _ _ _ toldZ _ (0, 0) HK4.out)
  clear hb4
  go_wp2_with (refine wpList_store_row rfl 40 _ _ rfl W.heap.size toldZ (by rfl) (by rfl) 40 _ HK4.out sizeTold rfl (by simp [toldZ, Value.oneCell']) ?_)
  exact ⟨rfl, _, results_cell_row rfl _ _ W.heap.size _ _ (0, 0) _ rfl HK5.out Try.underlying40 rfl sizeTold, rfl, below_row HB4.out (Nat.le_refl _) _⟩
end Go.Proofs.Ytmehcogaopackaa
