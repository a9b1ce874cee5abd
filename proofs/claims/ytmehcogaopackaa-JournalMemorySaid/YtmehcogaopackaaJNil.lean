/-
  disk.New; the calls on a journal that is none, and Open of a disk that is none; the law's state.
-/
import Derived.Test.YtmehcogaopackaaJLog2
namespace Go.Proofs.Ytmehcogaopackaa
open Go.RowKit
set_option linter.unusedVariables false
set_option linter.unusedSimpArgs false
set_option maxRecDepth 100000 in
set_option maxHeartbeats 2000000 in
theorem dnew_any (cap : Nat) (hc : cap ≤ 1048576) (W : World) :
    Calls Try.prog 12 #[.int .i64 (cap : Nat)] W fun e W' => ∃ p F, e = .returned (.tuple #[.pointer (some ⟨p, 0, none⟩), .int .i64 0]) ∧ DkAt W' p F (Ds.new cap) ∧ (∀ b ∈ F, W.heap.size ≤ b) ∧ Below W.heap.size W W' := by
  have h1 : ¬ ((cap : Int) < 0) := by omega
  have h2 : ¬ ((1048576 : Int) < (cap : Int)) := by omega
  have hmm : ∀ w : World, (Instr.makeMap 83 none).run Try.prog w = .ok (.map (some w.heap.size)) (w.alloc (.map #[] 0)) := fun w => by
    simp [go_sem, Instr.makeMap, Try.underlying83]
  have hb : Below W.heap.size W (((W.alloc (.map #[] 0)).alloc (.map #[] 0)).alloc (.cells (dkCells (Ds.new cap) W.heap.size (W.heap.size + 1) (.slice none 0 0)) 86)) := (((Below.refl _ _).alloc (Nat.le_refl _) _).alloc (by simp) _).alloc (by simp; omega) _
  have hd : DkAt (((W.alloc (.map #[] 0)).alloc (.map #[] 0)).alloc (.cells (dkCells (Ds.new cap) W.heap.size (W.heap.size + 1) (.slice none 0 0)) 86)) (W.heap.size + 2) [W.heap.size, W.heap.size + 1, W.heap.size + 2] (Ds.new cap) := by
    have m1 : MapAt (W.alloc (.map #[] 0)) W.heap.size none := MapAt.made W
    have m2 : MapAt ((W.alloc (.map #[] 0)).alloc (.map #[] 0)) (W.alloc (.map #[] 0)).heap.size none := MapAt.made _
    rw [World.size_alloc] at m2
    have m1' : MapAt ((W.alloc (.map #[] 0)).alloc (.map #[] 0)) W.heap.size none := m1.of_block (heap_alloc_old _ _ (by simp))
    have h3 := heap_alloc_new ((W.alloc (.map #[] 0)).alloc (.map #[] 0)) (.cells (dkCells (Ds.new cap) W.heap.size (W.heap.size + 1) (.slice none 0 0)) 86)
    rw [World.size_alloc, World.size_alloc] at h3
    refine ⟨W.heap.size, W.heap.size + 1, .slice none 0 0, [], h3, m1'.of_block (heap_alloc_old _ _ (by simp; omega)), m2.of_block (heap_alloc_old _ _ (by simp)), World.ownsRow_nil _ _ _ _, rfl, by omega, by simp, by simp, by simp, (fun r hr => by cases hr), ?_⟩
    intro b hb
    simp only [List.mem_cons, List.not_mem_nil, or_false] at hb
    rw [World.size_alloc, World.size_alloc, World.size_alloc]
    omega
  have HB := hid hb
  have HD := hid hd
  clear hb hd
  go_enter Try.func12, Try.ntmps12
  go_wp2_with fail
  go_ret2
  exact ⟨W.heap.size + 2, rfl, [W.heap.size, W.heap.size + 1, W.heap.size + 2], HD.out, (by simp), HB.out⟩
set_option maxRecDepth 100000 in
set_option maxHeartbeats 2000000 in
theorem jopen_nil (W : World) : Calls Try.prog 6 #[.pointer none] W fun e W' => e = .returned (.tuple #[.pointer none, .int .i64 1]) ∧ Below W.heap.size W W' := by
  go_enter Try.func6, Try.ntmps6
  go_wp2
  go_ret2
  exact ⟨rfl, Below.refl _ _⟩
set_option maxRecDepth 100000 in
set_option maxHeartbeats 2000000 in
theorem jsave_nil (term : Nat) (vote : Int) (life : Nat) (W : World) : Calls Try.prog 9 #[.pointer none, .agg #[.int .u64 term, .int .i64 vote, .int .u64 life]] W fun e W' => e = .returned (.int .i64 1) ∧ Below W.heap.size W W' := by
  have hb : Below W.heap.size W (W.alloc (.cells #[.int .u64 term, .int .i64 vote, .int .u64 life] 25)) := (Below.refl _ _).alloc (Nat.le_refl _) _
  have HB := hid hb
  clear hb
  go_enter Try.func9, Try.ntmps9
  go_wp2_with fail
  go_ret
  exact ⟨rfl, HB.out⟩
set_option maxRecDepth 100000 in
set_option maxHeartbeats 2000000 in
theorem jappend_nil (W : World) : Calls Try.prog 10 #[.pointer none, .int .u64 1, .slice none 0 0] W fun e W' => e = .returned (.int .i64 1) ∧ Below W.heap.size W W' := by
  go_enter Try.func10, Try.ntmps10
  go_wp2_with fail
  go_ret
  exact ⟨rfl, Below.refl _ _⟩
set_option maxRecDepth 100000 in
set_option maxHeartbeats 2000000 in
theorem jrebase_nil (base bterm : Nat) (ac al : Option Addr) (n1 n2 c1 c2 : Nat) (W : World) : Calls Try.prog 11 #[.pointer none, .agg #[.int .u64 base, .int .u64 bterm, .slice ac n1 c1, .slice al n2 c2], .string { data := #[] }] W fun e W' => e = .returned (.int .i64 1) ∧ Below W.heap.size W W' := by
  have hb : Below W.heap.size W (W.alloc (.cells #[.int .u64 base, .int .u64 bterm, .slice ac n1 c1, .slice al n2 c2] 29)) := (Below.refl _ _).alloc (Nat.le_refl _) _
  have HB := hid hb
  clear hb
  go_enter Try.func11, Try.ntmps11
  go_wp2_with fail
  go_ret
  exact ⟨rfl, HB.out⟩
set_option maxRecDepth 100000 in
set_option maxHeartbeats 2000000 in
theorem jhard_nil (W : World) : Calls Try.prog 18 #[.pointer none] W fun e W' => e = .returned (.agg #[.int .u64 0, .int .i64 0, .int .u64 0]) ∧ Below W.heap.size W W' := by
  have HK := hid (heap_alloc_new W (.cells #[.int .u64 0, .int .i64 0, .int .u64 0] 25))
  have HB : Hid (Below W.heap.size W (W.alloc (.cells #[.int .u64 0, .int .i64 0, .int .u64 0] 25))) := (Below.refl _ _).alloc (Nat.le_refl _) _
  go_enter Try.func18, Try.ntmps18
  go_wp2_with fail
  exact ⟨rfl, _, results_cell_row rfl _ _ W.heap.size _ _ (0, 0) _ rfl HK.out Try.underlying25 rfl sizeHard, rfl, HB.out⟩
set_option maxRecDepth 100000 in
set_option maxHeartbeats 2000000 in
theorem jlog_nil (W : World) : Calls Try.prog 14 #[.pointer none] W fun e W' => e = .returned (.agg #[.int .u64 0, .int .u64 0, .slice none 0 0, .slice none 0 0]) ∧ Below W.heap.size W W' := by
  have HK := hid (heap_alloc_new W (.cells #[.int .u64 0, .int .u64 0, .slice none 0 0, .slice none 0 0] 29))
  have HB : Hid (Below W.heap.size W (W.alloc (.cells #[.int .u64 0, .int .u64 0, .slice none 0 0, .slice none 0 0] 29))) := (Below.refl _ _).alloc (Nat.le_refl _) _
  go_enter Try.func14, Try.ntmps14
  go_wp2_with fail
  exact ⟨rfl, _, results_cell_row rfl _ _ W.heap.size _ _ (0, 0) _ rfl HK.out Try.underlying29 rfl sizeLog, rfl, HB.out⟩
set_option maxRecDepth 100000 in
set_option maxHeartbeats 2000000 in
theorem jimage_nil (W : World) : Calls Try.prog 20 #[.pointer none] W fun e W' => e = .returned (.string { data := #[] }) ∧ Below W.heap.size W W' := by
  go_enter Try.func20, Try.ntmps20
  go_wp2_with fail
  go_ret
  exact ⟨rfl, Below.refl _ _⟩
end Go.Proofs.Ytmehcogaopackaa
