/-
  The walk of wire.ReadMessage.
-/
import Derived.Test.YtgkapgfpalbkjaaWReadRq
import Derived.Test.YtgkapgfpalbkjaaWManyM
import Derived.Test.YtgkapgfpalbkjaaWMayMs
import Derived.Test.YtgkapgfpalbkjaaCut
namespace Go.Proofs.Ytgkapgfpalbkjaa
open Go.RowKit
set_option linter.unusedVariables false
set_option linter.unusedSimpArgs false

def msgZ : Array Value := #[.int .i64 0, .int .i64 0, .int .i64 0, .int .u64 0, .int .u64 0, .int .u64 0, .int .u64 0, .bool false, .slice none 0 0, .slice none 0 0, .int .i64 0, .int .i64 0, .string { data := #[] }]
theorem sizeMsg : (Try.prog.info? 32).map (·.size) = some 13 := by kernel_rfl
theorem Ms.cells_one (x : Ms) (a1 a2 : Option Addr) (l1 l2 c1 c2 : Nat) : (x.cells (.slice a1 l1 c1) (.slice a2 l2 c2)).all (·.oneCell') = true := by simp [Ms.cells, Value.oneCell']
/-- what ReadMessage tells of a frame's body: the message that was read, the error -/
def msOut (s : Bytes) (x : Ms) (st : Nat × Nat) : Ms × Nat := if pEnd s st = 0 ∧ mayMs x = true then (x, 0) else (Ms.zero, 4)
theorem cutE {u t : Bytes} {n e : Nat} (E : cutOf u = (t, n, e)) (hu : u.length ≤ maxLen) (w : World) :
    Calls Try.prog 57 #[.string (str u)] w fun x w' => x = .returned (.tuple #[.string (str t), .int .i64 (n : Int), .int .i64 (e : Int)]) ∧ Below w.heap.size w w' := by
  have := cut_any (str u) w (by rw [str_size]; exact hu)
  rw [show (str u).data.toList = u from rfl, E] at this
  exact this
set_option maxHeartbeats 1000000 in
theorem readMs_cut (u t : Bytes) (n e : Nat) (E : Hid (cutOf u = (t, n, e))) (hu : u.length ≤ maxLen) (he : e ≠ 0) (w : World) :
    Calls Try.prog 17 #[.string (str u)] w fun x w' => x = .returned (.tuple #[.agg (Ms.zero.cells (.slice none 0 0) (.slice none 0 0)), .int .i64 (e : Nat)]) ∧ Below w.heap.size w w' := by
  have he1 : ((e : Int) == 0) = false := by simpa using he
  have he2 : ((e : Int) != 0) = true := by simpa using he
  have hZ1 : msgZ.all (·.oneCell') = true := by simp [msgZ, Value.oneCell']
  have HU := hid hu
  clear hu
  go_enter Try.func17, Try.ntmps17
  go_wp2_with fail
  refine (cutE E.out HU.out _).mono ?_
  rintro x w1 ⟨rfl, hb1⟩
  have HR : Hid (w1.heap[w.heap.size]? = some (.cells msgZ 32)) := (hb1.block w.heap.size (by simp)).trans (heap_alloc_new w _)
  have HB : Hid (Below w.heap.size w w1) := ((Below.refl _ _).alloc (Nat.le_refl _) _).trans (hb1.mono (by simp))
  clear hb1
  go_wp2_with (refine wpList_store_row rfl 32 _ _ rfl w.heap.size msgZ (by rfl) (by rfl) 32 msgZ HR.out sizeMsg rfl hZ1 ?_)
  refine bodyPost_ret (results_cell_tmp (by rfl) _ _ w.heap.size 32 msgZ (0, 0) _ (.int .i64 (e : Nat)) rfl rfl (setRow_heap _ _ _ _ _ _ HR.out) Try.underlying32 rfl sizeMsg) rfl ?_
  exact ⟨rfl, below_row HB.out (Nat.le_refl _) _⟩
set_option maxHeartbeats 1000000 in
theorem readMs_rest (u t : Bytes) (n : Nat) (E : Hid (cutOf u = (t, n, 0))) (hu : u.length ≤ maxLen) (hn : n < u.length) (w : World) :
    Calls Try.prog 17 #[.string (str u)] w fun x w' => x = .returned (.tuple #[.agg (Ms.zero.cells (.slice none 0 0) (.slice none 0 0)), .int .i64 (9 : Nat)]) ∧ Below w.heap.size w w' := by
  have hz : (str u).size = u.length := str_size _
  have hZ1 : msgZ.all (·.oneCell') = true := by simp [msgZ, Value.oneCell']
  have HU := hid hu
  clear hu
  go_enter Try.func17, Try.ntmps17
  go_wp2_with fail
  refine (cutE E.out HU.out _).mono ?_
  rintro x w1 ⟨rfl, hb1⟩
  have HR : Hid (w1.heap[w.heap.size]? = some (.cells msgZ 32)) := (hb1.block w.heap.size (by simp)).trans (heap_alloc_new w _)
  have HB : Hid (Below w.heap.size w w1) := ((Below.refl _ _).alloc (Nat.le_refl _) _).trans (hb1.mono (by simp))
  clear hb1
  go_wp2_with (refine wpList_store_row rfl 32 _ _ rfl w.heap.size msgZ (by rfl) (by rfl) 32 msgZ HR.out sizeMsg rfl hZ1 ?_)
  refine bodyPost_ret (results_cell_tmp (by rfl) _ _ w.heap.size 32 msgZ (0, 0) _ (.int .i64 9) rfl rfl (setRow_heap _ _ _ _ _ _ HR.out) Try.underlying32 rfl sizeMsg) rfl ?_
  exact ⟨rfl, below_row HB.out (Nat.le_refl _) _⟩
set_option maxRecDepth 100000 in
set_option maxHeartbeats 4000000 in
theorem readMs_at (u s : Bytes) (n : Nat) (E : Hid (cutOf u = (s, n, 0))) (hu : u.length ≤ maxLen) (hn : ¬ n < u.length) (hs : s.length ≤ 1152921504606846976) (w : World) {n0 n1 n2 n3 n4 n5 n6 n7 ne nc n10 n11 : Nat} {x12 : Bytes} {le : List En} {lc : List Int} {st1 st2 st3 st4 st5 st6 st7 st8 st9 st10 st11 st12 st13 st14 st15 : Nat × Nat}
    (E0 : Hid (pCount 11 s (0, 0) = (n0, st1))) (E1 : Hid (pCount 5 s st1 = (n1, st2))) (E2 : Hid (pCount 5 s st2 = (n2, st3))) (E3 : Hid (pNum s st3 = (n3, st4))) (E4 : Hid (pNum s st4 = (n4, st5))) (E5 : Hid (pNum s st5 = (n5, st6))) (E6 : Hid (pNum s st6 = (n6, st7))) (E7 : Hid (pCount 1 s st7 = (n7, st8)))
    (E8 : Hid (pCount 8 s st8 = (ne, st9))) (M8 : Hid (many (rdEntry s) ne st9 = (le, st10))) (E9 : Hid (pCount 5 s st10 = (nc, st11))) (M9 : Hid (many (rdConf s) nc st11 = (lc, st12)))
    (E10 : Hid (pCount 262144 s st12 = (n10, st13))) (E11 : Hid (pCount 262144 s st13 = (n11, st14))) (E12 : Hid (pText 4096 s st14 = (x12, st15)))
    (x : Ms) (hx : x = ⟨n0, n1, n2, n3, n4, n5, n6, ((n7 : Int) == 1), le, lc, n10, n11, x12⟩) (hxf : Hid (∀ e ∈ x.entries, e.data.length ≤ maxLen)) :
    Calls Try.prog 17 #[.string (str u)] w fun e w' => ∃ vu vf, e = .returned (.tuple #[.agg ((msOut s x st15).1.cells vu vf), .int .i64 ((msOut s x st15).2 : Nat)]) ∧
      Cells [] w' vu (msOut s x st15).1.entries.length (enVals (msOut s x st15).1.entries) ∧ Cells [] w' vf (msOut s x st15).1.conf.length (intVals (msOut s x st15).1.conf) ∧ Below w.heap.size w w' := by
  have hz : (str u).size = u.length := str_size _
  have HU0 := hid hu
  clear hu
  go_enter Try.func17, Try.ntmps17
  go_wp2_with fail
  refine (cutE E.out HU0.out _).mono ?_
  rintro x0 w0 ⟨rfl, hb0⟩
  have HR0 : Hid (w0.heap[w.heap.size]? = some (.cells msgZ 32)) := (hb0.block w.heap.size (by simp)).trans (heap_alloc_new w _)
  have HB0 : Hid (Below w.heap.size w w0) := ((Below.refl _ _).alloc (Nat.le_refl _) _).trans (hb0.mono (by simp))
  have hs0 : w.heap.size < w0.heap.size := (Array.getElem?_eq_some_iff.1 HR0.out).1
  clear hb0
  go_wp2_with fail
  refine (open_any s _).mono ?_
  rintro e w1 ⟨rfl, hr1, hb1⟩
  have HR1 : Hid (w1.heap[w.heap.size]? = some (.cells msgZ 32)) := (hb1.block w.heap.size hs0).trans HR0.out
  have HB1 : Hid (Below w.heap.size w w1) := HB0.out.trans (hb1.mono (Nat.le_of_lt hs0))
  go_wp2_with fail
  have hr2 : RS (w1.alloc (.cells #[.pointer (some ⟨w0.heap.size, 0, none⟩)] 70)) w0.heap.size s (0, 0) := RS.alloc ⟨hr1, Nat.zero_le _⟩ _
  have hc2 : (w1.alloc (.cells #[.pointer (some ⟨w0.heap.size, 0, none⟩)] 70)).cell? ⟨w1.heap.size, 0, none⟩ = some (.pointer (some ⟨w0.heap.size, 0, none⟩)) := World.cell?_alloc_mark _ _ _ _ _
  have hlt := hr1.lt
  have hne : w1.heap.size ≠ w0.heap.size := by omega
  have hb : w.heap.size < w0.heap.size := hs0
  have hc : w.heap.size < w1.heap.size := by omega
  have HB2 : Hid (Below w.heap.size w (w1.alloc (.cells #[.pointer (some ⟨w0.heap.size, 0, none⟩)] 70))) := HB1.out.alloc (by omega) _
  have HR2 : Hid ((w1.alloc (.cells #[.pointer (some ⟨w0.heap.size, 0, none⟩)] 70)).heap[w.heap.size]? = some (.cells msgZ 32)) := (heap_alloc_old _ _ (by omega)).trans HR1.out
  clear HB0 HR0 HB1 HR1 hs0
  generalize w1.alloc (.cells #[.pointer (some ⟨w0.heap.size, 0, none⟩)] 70) = w2 at *
  generalize w1.heap.size = c at *
  generalize w0.heap.size = b at *
  clear hr1 hb1 hlt hn hz
  have hX0 : XR s b w2 (0, 0) w2.drew := ⟨hr2, Only.of_below (Below.refl _ _).drew⟩
  have hSX : ∀ st W, XR s b w2 st W → W.cell? ⟨c, 0, none⟩ = some (.pointer (some ⟨b, 0, none⟩)) := fun st W h => h.2.cell hne hc2
  refine wp_region_held_drew (S := fun W => W.cell? ⟨c, 0, none⟩ = some (.pointer (some ⟨b, 0, none⟩))) (by kernel_rfl) (hSX _ _ hX0) (fun hHeld => ?_)

  refine wpAnyH_takeD (i := 0) (d := 28) (v := .pointer (some ⟨b, 0, none⟩)) rfl rfl rfl (by kernel_rfl) (by kernel_rfl) (by kernel_rfl) (fun _ _ _ _ h => h) ?_ hHeld ?_
  · intro w hSw; go_simp
  simp only [Act.put, List.setIfInBounds_toArray, List.set_cons_zero, List.set_cons_succ]

  refine wpAnyH_takeD (i := 2) (d := 30) (v := .pointer (some ⟨b, 0, none⟩)) rfl rfl rfl (by kernel_rfl) (by kernel_rfl) (by kernel_rfl) (fun _ _ _ _ h => h) ?_ hHeld ?_
  · intro w hSw; go_simp
  simp only [Act.put, List.setIfInBounds_toArray, List.set_cons_zero, List.set_cons_succ]

  refine wpAnyH_takeD (i := 4) (d := 32) (v := .pointer (some ⟨b, 0, none⟩)) rfl rfl rfl (by kernel_rfl) (by kernel_rfl) (by kernel_rfl) (fun _ _ _ _ h => h) ?_ hHeld ?_
  · intro w hSw; go_simp
  simp only [Act.put, List.setIfInBounds_toArray, List.set_cons_zero, List.set_cons_succ]

  refine wpAnyH_takeD (i := 6) (d := 34) (v := .pointer (some ⟨b, 0, none⟩)) rfl rfl rfl (by kernel_rfl) (by kernel_rfl) (by kernel_rfl) (fun _ _ _ _ h => h) ?_ hHeld ?_
  · intro w hSw; go_simp
  simp only [Act.put, List.setIfInBounds_toArray, List.set_cons_zero, List.set_cons_succ]

  refine wpAnyH_takeD (i := 8) (d := 36) (v := .pointer (some ⟨b, 0, none⟩)) rfl rfl rfl (by kernel_rfl) (by kernel_rfl) (by kernel_rfl) (fun _ _ _ _ h => h) ?_ hHeld ?_
  · intro w hSw; go_simp
  simp only [Act.put, List.setIfInBounds_toArray, List.set_cons_zero, List.set_cons_succ]

  refine wpAnyH_takeD (i := 10) (d := 38) (v := .pointer (some ⟨b, 0, none⟩)) rfl rfl rfl (by kernel_rfl) (by kernel_rfl) (by kernel_rfl) (fun _ _ _ _ h => h) ?_ hHeld ?_
  · intro w hSw; go_simp
  simp only [Act.put, List.setIfInBounds_toArray, List.set_cons_zero, List.set_cons_succ]

  refine wpAnyH_takeD (i := 12) (d := 40) (v := .pointer (some ⟨b, 0, none⟩)) rfl rfl rfl (by kernel_rfl) (by kernel_rfl) (by kernel_rfl) (fun _ _ _ _ h => h) ?_ hHeld ?_
  · intro w hSw; go_simp
  simp only [Act.put, List.setIfInBounds_toArray, List.set_cons_zero, List.set_cons_succ]

  refine wpAnyH_takeD (i := 14) (d := 42) (v := .pointer (some ⟨b, 0, none⟩)) rfl rfl rfl (by kernel_rfl) (by kernel_rfl) (by kernel_rfl) (fun _ _ _ _ h => h) ?_ hHeld ?_
  · intro w hSw; go_simp
  simp only [Act.put, List.setIfInBounds_toArray, List.set_cons_zero, List.set_cons_succ]

  refine Fork.start (al := 18) (d := 8) (X := XR s b w2 (0, 0)) (Y := YR b w2 msgZ 32) ?_ hX0
  have FL : ∀ {ops : Array Oper} {oa : Oper}, ops[18]? = some oa → oa.guard = none → oa.dst = some 8 → oa.op = .alloc 32 → Floats Try.prog ops (fun W => W.cell? ⟨c, 0, none⟩ = some (.pointer (some ⟨b, 0, none⟩))) 18 8 (XR s b w2) (YR b w2 msgZ 32) := by
    intro ops oa h1 h2 h3 h4
    refine ⟨oa, .cells msgZ 32, h1, h2, h3, ?_, hSX, ?_, ?_⟩
    · intro a W
      unfold execOp
      rw [h4]
      go_simp
      rfl
    · exact fun st W h => ⟨h.1.alloc _, h.2.trans (.of_below ((Below.refl _ _).alloc (Nat.le_refl _) _))⟩
    · exact fun st W h => ⟨heap_alloc_new W _, h.2.size, hr2.lt, by simp⟩

  refine Fork.step (ci := 1) (dc := 29) (rs := [1, 18]) (st' := st1) (v := .int .i64 n0) (FL rfl rfl rfl rfl) rfl rfl rfl (by kernel_rfl) (by kernel_rfl) (by kernel_rfl) (by kernel_rfl) (by kernel_rfl) (by kernel_rfl) (by kernel_rfl) (fun _ _ _ _ h => h) ?b0 ?_
  case b0 =>
    intro W K hX hK
    simp only [Act.put, List.setIfInBounds_toArray, List.set_cons_zero, List.set_cons_succ] at hK
    go_simp
    refine Calls.mono (xyCount (m := 11) (by decide) (zs := msgZ) (t := 32) hs E0.out _ hX) ?_
    rintro e W' ⟨rfl, hX', hY'⟩
    exact hK _ hX' hY'
  simp only [Act.put, List.setIfInBounds_toArray, List.set_cons_zero, List.set_cons_succ]

  refine Fork.step (ci := 3) (dc := 31) (rs := [3, 18]) (st' := st2) (v := .int .i64 n1) (FL rfl rfl rfl rfl) rfl rfl rfl (by kernel_rfl) (by kernel_rfl) (by kernel_rfl) (by kernel_rfl) (by kernel_rfl) (by kernel_rfl) (by kernel_rfl) (fun _ _ _ _ h => h) ?b1 ?_
  case b1 =>
    intro W K hX hK
    simp only [Act.put, List.setIfInBounds_toArray, List.set_cons_zero, List.set_cons_succ] at hK
    go_simp
    refine Calls.mono (xyCount (m := 5) (by decide) (zs := msgZ) (t := 32) hs E1.out _ hX) ?_
    rintro e W' ⟨rfl, hX', hY'⟩
    exact hK _ hX' hY'
  simp only [Act.put, List.setIfInBounds_toArray, List.set_cons_zero, List.set_cons_succ]

  refine Fork.step (ci := 5) (dc := 33) (rs := [5, 18]) (st' := st3) (v := .int .i64 n2) (FL rfl rfl rfl rfl) rfl rfl rfl (by kernel_rfl) (by kernel_rfl) (by kernel_rfl) (by kernel_rfl) (by kernel_rfl) (by kernel_rfl) (by kernel_rfl) (fun _ _ _ _ h => h) ?b2 ?_
  case b2 =>
    intro W K hX hK
    simp only [Act.put, List.setIfInBounds_toArray, List.set_cons_zero, List.set_cons_succ] at hK
    go_simp
    refine Calls.mono (xyCount (m := 5) (by decide) (zs := msgZ) (t := 32) hs E2.out _ hX) ?_
    rintro e W' ⟨rfl, hX', hY'⟩
    exact hK _ hX' hY'
  simp only [Act.put, List.setIfInBounds_toArray, List.set_cons_zero, List.set_cons_succ]

  refine Fork.step (ci := 7) (dc := 35) (rs := [7, 18]) (st' := st4) (v := .int .u64 n3) (FL rfl rfl rfl rfl) rfl rfl rfl (by kernel_rfl) (by kernel_rfl) (by kernel_rfl) (by kernel_rfl) (by kernel_rfl) (by kernel_rfl) (by kernel_rfl) (fun _ _ _ _ h => h) ?b3 ?_
  case b3 =>
    intro W K hX hK
    simp only [Act.put, List.setIfInBounds_toArray, List.set_cons_zero, List.set_cons_succ] at hK
    go_simp
    refine Calls.mono (xyNum (zs := msgZ) (t := 32) hs E3.out _ hX) ?_
    rintro e W' ⟨rfl, hX', hY'⟩
    exact hK _ hX' hY'
  simp only [Act.put, List.setIfInBounds_toArray, List.set_cons_zero, List.set_cons_succ]

  refine Fork.step (ci := 9) (dc := 37) (rs := [9, 18]) (st' := st5) (v := .int .u64 n4) (FL rfl rfl rfl rfl) rfl rfl rfl (by kernel_rfl) (by kernel_rfl) (by kernel_rfl) (by kernel_rfl) (by kernel_rfl) (by kernel_rfl) (by kernel_rfl) (fun _ _ _ _ h => h) ?b4 ?_
  case b4 =>
    intro W K hX hK
    simp only [Act.put, List.setIfInBounds_toArray, List.set_cons_zero, List.set_cons_succ] at hK
    go_simp
    refine Calls.mono (xyNum (zs := msgZ) (t := 32) hs E4.out _ hX) ?_
    rintro e W' ⟨rfl, hX', hY'⟩
    exact hK _ hX' hY'
  simp only [Act.put, List.setIfInBounds_toArray, List.set_cons_zero, List.set_cons_succ]

  refine Fork.step (ci := 11) (dc := 39) (rs := [11, 18]) (st' := st6) (v := .int .u64 n5) (FL rfl rfl rfl rfl) rfl rfl rfl (by kernel_rfl) (by kernel_rfl) (by kernel_rfl) (by kernel_rfl) (by kernel_rfl) (by kernel_rfl) (by kernel_rfl) (fun _ _ _ _ h => h) ?b5 ?_
  case b5 =>
    intro W K hX hK
    simp only [Act.put, List.setIfInBounds_toArray, List.set_cons_zero, List.set_cons_succ] at hK
    go_simp
    refine Calls.mono (xyNum (zs := msgZ) (t := 32) hs E5.out _ hX) ?_
    rintro e W' ⟨rfl, hX', hY'⟩
    exact hK _ hX' hY'
  simp only [Act.put, List.setIfInBounds_toArray, List.set_cons_zero, List.set_cons_succ]

  refine Fork.step (ci := 13) (dc := 41) (rs := [13, 18]) (st' := st7) (v := .int .u64 n6) (FL rfl rfl rfl rfl) rfl rfl rfl (by kernel_rfl) (by kernel_rfl) (by kernel_rfl) (by kernel_rfl) (by kernel_rfl) (by kernel_rfl) (by kernel_rfl) (fun _ _ _ _ h => h) ?b6 ?_
  case b6 =>
    intro W K hX hK
    simp only [Act.put, List.setIfInBounds_toArray, List.set_cons_zero, List.set_cons_succ] at hK
    go_simp
    refine Calls.mono (xyNum (zs := msgZ) (t := 32) hs E6.out _ hX) ?_
    rintro e W' ⟨rfl, hX', hY'⟩
    exact hK _ hX' hY'
  simp only [Act.put, List.setIfInBounds_toArray, List.set_cons_zero, List.set_cons_succ]

  refine Fork.step (ci := 15) (dc := 43) (rs := [15, 18]) (st' := st8) (v := .int .i64 n7) (FL rfl rfl rfl rfl) rfl rfl rfl (by kernel_rfl) (by kernel_rfl) (by kernel_rfl) (by kernel_rfl) (by kernel_rfl) (by kernel_rfl) (by kernel_rfl) (fun _ _ _ _ h => h) ?b7 ?_
  case b7 =>
    intro W K hX hK
    simp only [Act.put, List.setIfInBounds_toArray, List.set_cons_zero, List.set_cons_succ] at hK
    go_simp
    refine Calls.mono (xyCount (m := 1) (by decide) (zs := msgZ) (t := 32) hs E7.out _ hX) ?_
    rintro e W' ⟨rfl, hX', hY'⟩
    exact hK _ hX' hY'
  simp only [Act.put, List.setIfInBounds_toArray, List.set_cons_zero, List.set_cons_succ]

  refine Fork.take (i := 16) (di := 44) (v := .bool ((n7 : Int) == 1)) (fun W => hSX _ W) rfl rfl rfl (by kernel_rfl) (by kernel_rfl) (by kernel_rfl) (by kernel_rfl) (by kernel_rfl) (by kernel_rfl) (by kernel_rfl) (by kernel_rfl) (fun _ _ _ _ _ h => h) ?hbin ?_
  case hbin =>
    intro W _
    go_simp
  simp only [Act.put, List.setIfInBounds_toArray, List.set_cons_zero, List.set_cons_succ]
  refine Fork.take (i := 17) (di := 45) (v := .agg #[.int .i64 n0, .int .i64 n1, .int .i64 n2, .int .u64 n3, .int .u64 n4, .int .u64 n5, .int .u64 n6, .bool ((n7 : Int) == 1), .slice none 0 0, .slice none 0 0, .int .i64 0, .int .i64 0, .string { data := #[] }]) (fun W => hSX _ W) rfl rfl rfl (by kernel_rfl) (by kernel_rfl) (by kernel_rfl) (by kernel_rfl) (by kernel_rfl) (by kernel_rfl) (by kernel_rfl) (by kernel_rfl) (fun _ _ _ _ _ h => h) ?hb ?_
  case hb =>
    intro W _
    go_simp
  simp only [Act.put, List.setIfInBounds_toArray, List.set_cons_zero, List.set_cons_succ]
  refine Fork.base (FL rfl rfl rfl rfl) (by kernel_rfl) ?_
  intro W k hX hY
  simp only [Act.put, List.setIfInBounds_toArray, List.set_cons_zero, List.set_cons_succ]
  refine wpAnyH_one (i := 19) rfl rfl (by kernel_rfl) ?_
  refine wp_store_var 32 _ _ rfl hX hY _ rfl rfl sizeMsg rfl (by simp [Value.oneCell']) ?_
  intro w3 J3 ho3
  have hc3 : w3.cell? ⟨c, 0, none⟩ = some (.pointer (some ⟨b, 0, none⟩)) := hSX st8 w3 ⟨J3.rs, ho3⟩
  refine ⟨hc3, wpAnyH_done (by kernel_rfl) ?_ _⟩
  have hck : c ≠ k := by have := hY.2.1; have := World.block_lt_of_cell? _ _ hc2; simp only at this; omega
  have hbk : b ≠ k := J3.2.2.2
  have hwk : w.heap.size < k := by have := hY.2.1; have := World.block_lt_of_cell? _ _ hc2; simp only at this; omega
  have HB3 : Hid (Below w.heap.size w w3) := HB2.out.trans ((ho3.below hr2.lt).mono (by omega))
  have HR3 : Hid (w3.heap[w.heap.size]? = some (.cells msgZ 32)) := (ho3.block _ (Array.getElem?_eq_some_iff.1 HR2.out).1 (fun e => by cases e; omega)).trans HR2.out
  clear hX hY hHeld hSX hX0 hc2 hr2 HB2 HR2 FL ho3
  have HJ3 := hid J3
  clear J3
  go_wp2_with fail
  refine Calls.mono (readEntries_any s hs 8 (by decide) st8 st9 ne E8 b c hne w3 HJ3.out.rs hc3) ?_
  rintro e w4 ⟨vu, rfl, hou, hr4, ho4⟩
  have J4 := HJ3.out.only ho4 hr4
  rw [M8.out] at J4 hou
  obtain ⟨au, cu, eu⟩ := (Cells.of_row hou [b, k, w.heap.size] (by intro j hj; have := HJ3.out.lt; have := HJ3.out.rs.lt; simp at hj; omega)).form
  subst eu
  have HU4 := hid (Cells.of_row hou [b, k, w.heap.size] (by intro j hj; have := HJ3.out.lt; have := HJ3.out.rs.lt; simp at hj; omega))
  have c4 : w4.cell? ⟨k, 8, none⟩ = some (.slice none 0 0) := J4.at 8 _ rfl
  have f4 := J4.free 8
  have J5 : JR s b k 32 w3 #[.int .i64 n0, .int .i64 n1, .int .i64 n2, .int .u64 n3, .int .u64 n4, .int .u64 n5, .int .u64 n6, .bool ((n7 : Int) == 1), .slice au ne cu, .slice none 0 0, .int .i64 0, .int .i64 0, .string { data := #[] }] st10 (w4.setCell ⟨k, 8, none⟩ (.slice au ne cu)) := J4.set 8 _
  have HU5 := hid (HU4.out.kept2D ((Kept2.refl b k w4).set 8 (.slice au ne cu)) (by simp))
  have hc5 := J5.other hc3 hne hck
  have HJ5 := hid J5
  clear hr4 ho4 J4 hou HU4 J5
  go_wp2_with fail
  generalize w4.setCell ⟨k, 8, none⟩ (.slice au ne cu) = w5 at *
  refine Calls.mono (readConfs_any s hs 5 (by decide) st10 st11 nc E9 b c hne w5 HJ5.out.rs hc5) ?_
  rintro e w6 ⟨vf, rfl, hof, hr6, ho6⟩
  have J6 := HJ5.out.only ho6 hr6
  have HU6 := hid (HU5.out.kept2D (Kept2.only (k := k) ho6) (by simp))
  rw [M9.out] at J6 hof
  obtain ⟨af, cf, ef⟩ := (Cells.of_row hof [b, k, w.heap.size] (by intro j hj; have := HJ5.out.lt; have := HJ5.out.rs.lt; simp at hj; omega)).form
  subst ef
  have HF6 := hid (Cells.of_row hof [b, k, w.heap.size] (by intro j hj; have := HJ5.out.lt; have := HJ5.out.rs.lt; simp at hj; omega))
  have c6 : w6.cell? ⟨k, 9, none⟩ = some (.slice none 0 0) := J6.at 9 _ rfl
  have f6 := J6.free 9
  have J7 : JR s b k 32 w3 #[.int .i64 n0, .int .i64 n1, .int .i64 n2, .int .u64 n3, .int .u64 n4, .int .u64 n5, .int .u64 n6, .bool ((n7 : Int) == 1), .slice au ne cu, .slice af nc cf, .int .i64 0, .int .i64 0, .string { data := #[] }] st12 (w6.setCell ⟨k, 9, none⟩ (.slice af nc cf)) := J6.set 9 _
  have HU7 := hid (HU6.out.kept2D ((Kept2.refl b k w6).set 9 (.slice af nc cf)) (by simp))
  have HF7 := hid (HF6.out.kept2D ((Kept2.refl b k w6).set 9 (.slice af nc cf)) (by simp))
  have hc7 := J7.other hc3 hne hck
  have HJ7 := hid J7
  clear hr6 ho6 J6 hof HU6 HF6 J7 hc5 HJ5 HU5 c4 f4
  go_wp2_with fail
  generalize w6.setCell ⟨k, 9, none⟩ (.slice af nc cf) = w7 at *
  clear c6 f6 hc3
  have HJ7d : Hid (JR s b k 32 w3 #[.int .i64 n0, .int .i64 n1, .int .i64 n2, .int .u64 n3, .int .u64 n4, .int .u64 n5, .int .u64 n6, .bool ((n7 : Int) == 1), .slice au ne cu, .slice af nc cf, .int .i64 0, .int .i64 0, .string { data := #[] }] st12 w7.drew) := HJ7.out
  have hc7d : w7.drew.cell? ⟨c, 0, none⟩ = some (.pointer (some ⟨b, 0, none⟩)) := hc7
  have tok1 : True := trivial
  go_region_held3 (fun w' => w'.cell? ⟨c, 0, none⟩ = some (.pointer (some ⟨b, 0, none⟩))) (first | exact hc7d | assumption | exact keepSet (by assumption) hck)
    (first
    | (go_at_call 34; have _t := tok1; clear _t tok1; refine Calls.mono (jrCount (m := 262144) (by decide) hs E10.out HJ7d.out) ?_; rintro e w8 ⟨rfl, J8, ho8⟩; have hc8 := ho8.cell hne hc7d; have HJ8 := hid J8; clear J8)
    | (go_at_call 34; refine Calls.mono (jrCount (m := 262144) (by decide) hs E11.out HJ8.out) ?_; rintro e w9 ⟨rfl, J9, ho9⟩; have hc9 := ho9.cell hne hc8; have HJ9 := hid J9; clear J9)
    | (go_at_call 36; refine Calls.mono (jrText (m := 4096) (by decide) hs E12.out HJ9.out) ?_; rintro e w10 ⟨rfl, J10, ho10⟩; have hc10 := ho10.cell hne hc9; have g10 := J10.at 10 (.int .i64 0) rfl; have g11 := J10.at 11 (.int .i64 0) rfl; have g12 := J10.at 12 (.string { data := #[] }) rfl; have gf := J10.free; have HJ10 := hid J10; clear J10))
  have J11 := ((HJ10.out.set 10 (.int .i64 n10)).set 11 (.int .i64 n11)).set 12 (.string (str x12))
  have HJ15 : Hid (JR s b k 32 w3 #[.int .i64 n0, .int .i64 n1, .int .i64 n2, .int .u64 n3, .int .u64 n4, .int .u64 n5, .int .u64 n6, .bool ((n7 : Int) == 1), .slice au ne cu, .slice af nc cf, .int .i64 n10, .int .i64 n11, .string (str x12)] st15 _) := J11
  have hk11 : Hid (Kept2 b k w7 _) := ((((((Kept2.refl b k w7).drew.trans (.only ho8)).trans (.only ho9)).trans (.only ho10)).set 10 (.int .i64 n10)).set 11 (.int .i64 n11)).set 12 (.string (str x12))
  have hc15 := keepSet (o := 12) (v := .string (str x12)) (keepSet (o := 11) (v := .int .i64 n11) (keepSet (o := 10) (v := .int .i64 n10) hc10 hck) hck) hck
  clear J11 HJ10 HJ9 HJ8 HJ7d HJ7 hc8 hc9 hc10 g10 g11 g12 gf ho8 ho9 ho10 hc7d hc7
  go_wp2_with fail
  generalize ((w10.setCell ⟨k, 10, none⟩ (.int .i64 n10)).setCell ⟨k, 11, none⟩ (.int .i64 n11)).setCell ⟨k, 12, none⟩ (.string (str x12)) = w15 at *
  have HU15 := hid (HU7.out.kept2D hk11.out (by simp))
  have HF15 := hid (HF7.out.kept2D hk11.out (by simp))
  clear hk11 HU7 HF7
  have hne' : ne = le.length := by have := many_len (rdEntry s) ne st9; rw [M8.out] at this; exact this.symm
  have hnc' : nc = lc.length := by have := many_len (rdConf s) nc st11; rw [M9.out] at this; exact this.symm
  have hul : le.length ≤ 1152921504606846976 := by have := pCount_le 8 s st8; rw [E8.out] at this; simp only at this; omega
  have hfl : lc.length ≤ 1152921504606846976 := by have := pCount_le 5 s st10; rw [E9.out] at this; simp only at this; omega
  have hdl : x.data.length ≤ maxLen := by have := pText_le 4096 s st14; rw [E12.out] at this; simp only at this; subst hx; unfold maxLen; simp only; omega
  subst hne' hnc'
  have HU : Hid (Cells [b, k, w.heap.size] w15 (.slice au le.length cu) x.entries.length (enVals x.entries)) := by subst hx; exact HU15.out
  have HF : Hid (Cells [b, k, w.heap.size] w15 (.slice af lc.length cf) x.conf.length (intVals x.conf)) := by subst hx; exact HF15.out
  have HJ : Hid (JR s b k 32 w3 (x.cells (.slice au le.length cu) (.slice af lc.length cf)) st15 w15) := by subst hx; exact HJ15.out
  have hul' : x.entries.length ≤ 1152921504606846976 := by subst hx; exact hul
  have hfl' : x.conf.length ≤ 1152921504606846976 := by subst hx; exact hfl
  clear HU15 HF15 HJ15 hx hul hfl
  refine Calls.mono (rsEnd HJ.out.rs) ?_
  rintro e w16 ⟨rfl, ho16⟩
  have HJ16 : Hid (w16.heap[k]? = some (.cells (x.cells (.slice au le.length cu) (.slice af lc.length cf)) 32)) := (ho16.block k HJ.out.lt (fun e => hbk (by cases e; rfl))).trans HJ.out.blk
  have HU16 := hid (HU.out.kept2D (Kept2.only (k := k) ho16) (by simp))
  have HF16 := hid (HF.out.kept2D (Kept2.only (k := k) ho16) (by simp))
  have HK16 := hid (HJ.out.kept.trans (.only ho16))
  have HR16 : Hid (w16.heap[w.heap.size]? = some (.cells msgZ 32)) := (HK16.out.2.2.2.2 _ (Array.getElem?_eq_some_iff.1 HR3.out).1 (by omega) (by omega)).trans HR3.out
  have HB16 : Hid (Below w.heap.size w w16) := HK16.out.to_below HB3.out HB3.out.size (by omega) (by omega)
  clear HU HF HJ ho16 HB3 HR3 HK16 hc15
  have hZ1 : msgZ.all (·.oneCell') = true := by simp [msgZ, Value.oneCell']
  generalize hpe : pEnd s st15 = pe
  have HPE := hid hpe
  clear hpe
  by_cases hpe0 : pe = 0
  · subst hpe0
    have q0 : w16.cell? ⟨k, 0, none⟩ = some (.int .i64 x.kind) := cell_in HJ16.out 0 _ rfl
    have q1 : w16.cell? ⟨k, 1, none⟩ = some (.int .i64 x.src) := cell_in HJ16.out 1 _ rfl
    have q2 : w16.cell? ⟨k, 2, none⟩ = some (.int .i64 x.dest) := cell_in HJ16.out 2 _ rfl
    have q3 : w16.cell? ⟨k, 3, none⟩ = some (.int .u64 x.term) := cell_in HJ16.out 3 _ rfl
    have q4 : w16.cell? ⟨k, 4, none⟩ = some (.int .u64 x.index) := cell_in HJ16.out 4 _ rfl
    have q5 : w16.cell? ⟨k, 5, none⟩ = some (.int .u64 x.logTerm) := cell_in HJ16.out 5 _ rfl
    have q6 : w16.cell? ⟨k, 6, none⟩ = some (.int .u64 x.commit) := cell_in HJ16.out 6 _ rfl
    have q7 : w16.cell? ⟨k, 7, none⟩ = some (.bool x.ok) := cell_in HJ16.out 7 _ rfl
    have q8 : w16.cell? ⟨k, 8, none⟩ = some (.slice au le.length cu) := cell_in HJ16.out 8 _ rfl
    have q9 : w16.cell? ⟨k, 9, none⟩ = some (.slice af lc.length cf) := cell_in HJ16.out 9 _ rfl
    have q10 : w16.cell? ⟨k, 10, none⟩ = some (.int .i64 x.offset) := cell_in HJ16.out 10 _ rfl
    have q11 : w16.cell? ⟨k, 11, none⟩ = some (.int .i64 x.size) := cell_in HJ16.out 11 _ rfl
    have q12 : w16.cell? ⟨k, 12, none⟩ = some (.string (str x.data)) := cell_in HJ16.out 12 _ rfl
    go_wp2_with fail
    clear q0 q1 q2 q3 q4 q5 q6 q7 q8 q9 q10 q11 q12
    refine Calls.mono (mayMs_any x _ _ w16 [b, k, w.heap.size] HU16.out HF16.out hul' hfl' hxf.out hdl) ?_
    rintro e w17 ⟨rfl, hb17⟩
    have HJ17 := hid ((hb17.block k (Array.getElem?_eq_some_iff.1 HJ16.out).1).trans HJ16.out)
    have HR17 := hid ((hb17.block w.heap.size (Array.getElem?_eq_some_iff.1 HR16.out).1).trans HR16.out)
    have HB17 := hid (HB16.out.trans (hb17.mono HB16.out.size))
    have HU17 := hid (HU16.out.below hb17)
    have HF17 := hid (HF16.out.below hb17)
    clear hb17 HJ16 HR16 HB16 HU16 HF16
    cases hmr : mayMs x
    · have HO : Hid (msOut s x st15 = (Ms.zero, 4)) := by
        show msOut s x st15 = _
        unfold msOut
        rw [if_neg (fun h => by rw [hmr] at h; exact absurd h.2 (by simp))]
      go_wp2_with (refine wpList_store_row rfl 32 _ _ rfl w.heap.size msgZ (by rfl) (by rfl) 32 msgZ HR17.out sizeMsg rfl hZ1 ?_)
      rw [HO.out]
      refine bodyPost_ret (results_cell_tmp (by rfl) _ _ w.heap.size 32 msgZ (0, 0) _ (.int .i64 4) rfl rfl (setRow_heap _ _ _ _ _ _ HR17.out) Try.underlying32 rfl sizeMsg) rfl ?_
      exact ⟨.slice none 0 0, .slice none 0 0, rfl, Cells.nil _ _, Cells.nil _ _, below_row HB17.out (Nat.le_refl _) _⟩
    · have HO : Hid (msOut s x st15 = (x, 0)) := by
        show msOut s x st15 = _
        unfold msOut
        rw [if_pos ⟨HPE.out, hmr⟩]
      have hX1 := x.cells_one au af le.length lc.length cu cf
      go_wp2_with (first | (refine wpList_load_row rfl 32 _ rfl k (by rfl) 32 (x.cells (.slice au le.length cu) (.slice af lc.length cf)) (0, 0) _ HJ17.out Try.underlying32 rfl sizeMsg ?_) | (refine wpList_store_row rfl 32 _ _ rfl w.heap.size (x.cells (.slice au le.length cu) (.slice af lc.length cf)) (by rfl) (by rfl) 32 msgZ HR17.out sizeMsg rfl hX1 ?_))
      rw [HO.out]
      refine bodyPost_ret (results_cell_tmp (by rfl) _ _ w.heap.size 32 (x.cells (.slice au le.length cu) (.slice af lc.length cf)) (0, 0) _ (.int .i64 0) rfl rfl (setRow_heap _ _ _ _ _ _ HR17.out) Try.underlying32 rfl sizeMsg) rfl ?_
      exact ⟨.slice au le.length cu, .slice af lc.length cf, rfl, (HU17.out.rowD (by simp) _).sub (by simp), (HF17.out.rowD (by simp) _).sub (by simp), below_row HB17.out (Nat.le_refl _) _⟩
  · have hpe1 : ((pe : Int) == 0) = false := by simpa using hpe0
    have hpe2 : ((pe : Int) != 0) = true := by simpa using hpe0
    have HO : Hid (msOut s x st15 = (Ms.zero, 4)) := by
      show msOut s x st15 = _
      unfold msOut
      rw [if_neg (fun h => hpe0 (HPE.out.symm.trans h.1))]
    go_wp2_with (refine wpList_store_row rfl 32 _ _ rfl w.heap.size msgZ (by rfl) (by rfl) 32 msgZ HR16.out sizeMsg rfl hZ1 ?_)
    rw [HO.out]
    refine bodyPost_ret (results_cell_tmp (by rfl) _ _ w.heap.size 32 msgZ (0, 0) _ (.int .i64 4) rfl rfl (setRow_heap _ _ _ _ _ _ HR16.out) Try.underlying32 rfl sizeMsg) rfl ?_
    exact ⟨.slice none 0 0, .slice none 0 0, rfl, Cells.nil _ _, Cells.nil _ _, below_row HB16.out (Nat.le_refl _) _⟩
end Go.Proofs.Ytgkapgfpalbkjaa
