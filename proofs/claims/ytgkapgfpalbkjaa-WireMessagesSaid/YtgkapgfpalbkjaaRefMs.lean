/-
  The walk of the reference's ReadMessage.
-/
import Derived.Test.YtgkapgfpalbkjaaRefJQ
import Derived.Test.YtgkapgfpalbkjaaWManyM
import Derived.Test.YtgkapgfpalbkjaaPend
import Derived.Test.YtgkapgfpalbkjaaRefBody
import Derived.Test.YtgkapgfpalbkjaaRefCut
import Derived.Test.YtgkapgfpalbkjaaWireOneW
namespace Go.Proofs.Ytgkapgfpalbkjaa
open Go.RowKit
set_option linter.unusedVariables false
set_option linter.unusedSimpArgs false
/-- the load of a whole row, behind a guard that holds -/
theorem load_row_behind {P : Program} {ops : Array Oper} {rest : List Oper} {o : Oper} {a : Act} {w : World} {Q : Exit → Act → World → Prop} (hw : Region.wanted o (yielded ops a.tmps) = true) (ty : TypeId) (x : Operand) (ho : o.op = .load ty x)
    (g : Nat) (hx : a.eval x = .pointer (some ⟨g, 0, none⟩)) (t : TypeId) (cs : Array Value) (fr : Nat × Nat) (d : TypeDesc) (hg : w.heap[g]? = some (.cells cs t fr))
    (hu : P.underlying ty = some d) (hd : (match d with | .struct _ | .array _ _ => true | _ => false) = true) (hi : (P.info? ty).map (·.size) = some cs.size)
    (h : wpList P ops Q rest (a.put o.dst (.agg cs)) w) : wpList P ops Q (o :: rest) a w :=
  wpList_step fun K hK => by
    rw [if_pos hw]
    exact wp_load_row ty x ho g hx t cs fr d hg hu hd hi (hK _ _ h)
theorem refCutE {u t : Bytes} {n e : Nat} (E : cutOf u = (t, n, e)) (hu : u.length ≤ maxLen) (w : World) :
    Calls Try.prog 62 #[.string (str u)] w fun x w' => x = .returned (.tuple #[.string (str t), .int .i64 (n : Int), .int .i64 (e : Int)]) ∧ Below w.heap.size w w' := by
  have := refCut_any (str u) w (by rw [str_size]; exact hu)
  rw [show (str u).data.toList = u from rfl, E] at this
  exact this
/-- an entry as the reference reads it -/
def rdEntryR (s : Bytes) (st : Nat × Nat) : En × (Nat × Nat) := (⟨(pNum s st).1, (numI s (pNum s st).2).1, (pText 2048 s (numI s (pNum s st).2).2).1⟩, (pText 2048 s (numI s (pNum s st).2).2).2)
/-- what the reference's ReadMessage tells of a frame's body, x being the message that was read -/
def msRef (s : Bytes) (x : Ms) : Ms × Nat := if mayMs x = true ∧ x.body = s then (x, 0) else (Ms.zero, 4)
set_option maxHeartbeats 1000000 in
theorem refReadMs_cut (u t : Bytes) (n : Nat) (e : Nat) (E : Hid (cutOf u = (t, n, e))) (hu : u.length ≤ maxLen) (he : e ≠ 0) (w : World) :
    Calls Try.prog 18 #[.string (str u)] w fun x w' => x = .returned (.tuple #[.agg (Ms.zero.cells (.slice none 0 0) (.slice none 0 0)), .int .i64 (e : Nat)]) ∧ Below w.heap.size w w' := by
  have hz : (str u).size = u.length := str_size _
  have he1 : ((e : Int) == 0) = false := by simpa using he
  have he2 : ((e : Int) != 0) = true := by simpa using he
  have hZ1 : msgZ.all (·.oneCell') = true := by simp [msgZ, Value.oneCell']
  have HU := hid hu
  clear hu
  go_enter Try.func18, Try.ntmps18
  go_wp2_with fail
  refine (refCutE E.out HU.out _).mono ?_
  rintro x w1 ⟨rfl, hb1⟩
  have HR : Hid (w1.heap[w.heap.size]? = some (.cells msgZ 32)) := (hb1.block w.heap.size (by simp)).trans (heap_alloc_new w _)
  have HB : Hid (Below w.heap.size w w1) := ((Below.refl _ _).alloc (Nat.le_refl _) _).trans (hb1.mono (by simp))
  clear hb1
  go_wp2_with (refine wpList_store_row rfl 32 _ _ rfl w.heap.size msgZ (by rfl) (by rfl) 32 msgZ HR.out sizeMsg rfl hZ1 ?_)
  refine bodyPost_ret (results_cell_tmp (by rfl) _ _ w.heap.size 32 msgZ (0, 0) _ (.int .i64 (e : Nat)) rfl rfl (setRow_heap _ _ _ _ _ _ HR.out) Try.underlying32 rfl sizeMsg) rfl ?_
  exact ⟨rfl, below_row HB.out (Nat.le_refl _) _⟩
set_option maxHeartbeats 1000000 in
theorem refReadMs_rest (u t : Bytes) (n : Nat) (E : Hid (cutOf u = (t, n, 0))) (hu : u.length ≤ maxLen) (hn : n < u.length) (w : World) :
    Calls Try.prog 18 #[.string (str u)] w fun x w' => x = .returned (.tuple #[.agg (Ms.zero.cells (.slice none 0 0) (.slice none 0 0)), .int .i64 (9 : Nat)]) ∧ Below w.heap.size w w' := by
  have hz : (str u).size = u.length := str_size _
  have hZ1 : msgZ.all (·.oneCell') = true := by simp [msgZ, Value.oneCell']
  have HU := hid hu
  clear hu
  go_enter Try.func18, Try.ntmps18
  go_wp2_with fail
  refine (refCutE E.out HU.out _).mono ?_
  rintro x w1 ⟨rfl, hb1⟩
  have HR : Hid (w1.heap[w.heap.size]? = some (.cells msgZ 32)) := (hb1.block w.heap.size (by simp)).trans (heap_alloc_new w _)
  have HB : Hid (Below w.heap.size w w1) := ((Below.refl _ _).alloc (Nat.le_refl _) _).trans (hb1.mono (by simp))
  clear hb1
  go_wp2_with (refine wpList_store_row rfl 32 _ _ rfl w.heap.size msgZ (by rfl) (by rfl) 32 msgZ HR.out sizeMsg rfl hZ1 ?_)
  refine bodyPost_ret (results_cell_tmp (by rfl) _ _ w.heap.size 32 msgZ (0, 0) _ (.int .i64 9) rfl rfl (setRow_heap _ _ _ _ _ _ HR.out) Try.underlying32 rfl sizeMsg) rfl ?_
  exact ⟨rfl, below_row HB.out (Nat.le_refl _) _⟩
set_option maxRecDepth 100000 in
set_option maxHeartbeats 8000000 in
theorem refMs_at (u s : Bytes) (n : Nat) (E : Hid (cutOf u = (s, n, 0))) (hu : u.length ≤ maxLen) (hn : ¬ n < u.length) (hs : s.length ≤ 1152921504606846976) (w : World) {n0 n1 n2 n10 n11 : Int} {n3 n4 n5 n6 n7 ne nc : Nat} {x12 : Bytes} {le : List En} {lc : List Int} {st1 st2 st3 st4 st5 st6 st7 st8 st9 st10 st11 st12 st13 st14 st15 : Nat × Nat}
    (E0 : Hid (numI s (0, 0) = (n0, st1))) (E1 : Hid (numI s st1 = (n1, st2))) (E2 : Hid (numI s st2 = (n2, st3))) (E3 : Hid (pNum s st3 = (n3, st4))) (E4 : Hid (pNum s st4 = (n4, st5))) (E5 : Hid (pNum s st5 = (n5, st6))) (E6 : Hid (pNum s st6 = (n6, st7))) (E7 : Hid (pNum s st7 = (n7, st8)))
    (E8 : Hid (pCount 8 s st8 = (ne, st9))) (M8 : Hid (many (rdEntryR s) ne st9 = (le, st10))) (E9 : Hid (pCount 5 s st10 = (nc, st11))) (M9 : Hid (many (numI s) nc st11 = (lc, st12)))
    (E10 : Hid (numI s st12 = (n10, st13))) (E11 : Hid (numI s st13 = (n11, st14))) (E12 : Hid (pText 4096 s st14 = (x12, st15)))
    (x : Ms) (hx : Hid (x = ⟨n0, n1, n2, n3, n4, n5, n6, ((n7 : Int) == 1), le, lc, n10, n11, x12⟩)) (hfit : Hid x.fit) (hxf : Hid (∀ e ∈ x.entries, e.data.length ≤ maxLen)) (hxl : Hid (x.data.length ≤ maxLen)) :
    Calls Try.prog 18 #[.string (str u)] w fun e w' => ∃ vu vf, e = .returned (.tuple #[.agg ((msRef s x).1.cells vu vf), .int .i64 ((msRef s x).2 : Nat)]) ∧
      Cells [] w' vu (msRef s x).1.entries.length (enVals (msRef s x).1.entries) ∧ Cells [] w' vf (msRef s x).1.conf.length (intVals (msRef s x).1.conf) ∧ Below w.heap.size w w' := by
  have hz : (str u).size = u.length := str_size _
  have HU0 := hid hu
  clear hu
  go_enter Try.func18, Try.ntmps18
  go_wp2_with fail
  refine (refCutE E.out HU0.out _).mono ?_
  rintro x0 wc ⟨rfl, hb0⟩
  have HR9 : Hid (wc.heap[w.heap.size]? = some (.cells msgZ 32)) := (hb0.block w.heap.size (by simp)).trans (heap_alloc_new w _)
  have HB9 : Hid (Below w.heap.size w wc) := ((Below.refl _ _).alloc (Nat.le_refl _) _).trans (hb0.mono (by simp))
  have hwc : w.heap.size + 1 ≤ wc.heap.size := by have := hb0.size; simpa using this
  clear hb0 HU0
  go_wp2_with fail
  clear hz
  have h2 := heap_alloc_new wc (.cells (rrCells s 0 0 0) 81)
  have h3 := heap_alloc_new (wc.alloc (.cells (rrCells s 0 0 0) 81)) (.cells #[.int .i64 0, .int .i64 0, .int .i64 0, .int .u64 0, .int .u64 0, .int .u64 0, .int .u64 0, .bool false, .slice none 0 0, .slice none 0 0, .int .i64 0, .int .i64 0, .string { data := #[] }] 32)
  rw [World.size_alloc] at h3
  have HR0 := hid (blk_alloc' (blk_alloc' HR9.out (.cells (rrCells s 0 0 0) 81)) (.cells #[.int .i64 0, .int .i64 0, .int .i64 0, .int .u64 0, .int .u64 0, .int .u64 0, .int .u64 0, .bool false, .slice none 0 0, .slice none 0 0, .int .i64 0, .int .i64 0, .string { data := #[] }] 32))
  have HB0 : Hid (Below w.heap.size w ((wc.alloc (.cells (rrCells s 0 0 0) 81)).alloc (.cells #[.int .i64 0, .int .i64 0, .int .i64 0, .int .u64 0, .int .u64 0, .int .u64 0, .int .u64 0, .bool false, .slice none 0 0, .slice none 0 0, .int .i64 0, .int .i64 0, .string { data := #[] }] 32))) := ((HB9.out.alloc HB9.out.size _).alloc (by simp; omega) _)
  have HJ0 : Hid (JQ s wc.heap.size (wc.heap.size + 1) 32 ((wc.alloc (.cells (rrCells s 0 0 0) 81)).alloc (.cells #[.int .i64 0, .int .i64 0, .int .i64 0, .int .u64 0, .int .u64 0, .int .u64 0, .int .u64 0, .bool false, .slice none 0 0, .slice none 0 0, .int .i64 0, .int .i64 0, .string { data := #[] }] 32)) #[.int .i64 0, .int .i64 0, .int .i64 0, .int .u64 0, .int .u64 0, .int .u64 0, .int .u64 0, .bool false, .slice none 0 0, .slice none 0 0, .int .i64 0, .int .i64 0, .string { data := #[] }] (0, 0) ((wc.alloc (.cells (rrCells s 0 0 0) 81)).alloc (.cells #[.int .i64 0, .int .i64 0, .int .i64 0, .int .u64 0, .int .u64 0, .int .u64 0, .int .u64 0, .bool false, .slice none 0 0, .slice none 0 0, .int .i64 0, .int .i64 0, .string { data := #[] }] 32))) := ⟨⟨0, blk_alloc' h2 _, Nat.zero_le _⟩, h3, .refl _ _ _, by omega⟩
  clear h2 h3 HR9 HB9
  have hb : w.heap.size < wc.heap.size := by omega
  have hk : w.heap.size < wc.heap.size + 1 := by omega
  clear hwc
  unfold rrCells at *
  generalize ((wc.alloc (.cells #[.string (str s), .int .i64 ((0 : Nat) : Int), .int .i64 ((0 : Nat) : Int), .int .i64 0] 81)).alloc (.cells #[.int .i64 0, .int .i64 0, .int .i64 0, .int .u64 0, .int .u64 0, .int .u64 0, .int .u64 0, .bool false, .slice none 0 0, .slice none 0 0, .int .i64 0, .int .i64 0, .string { data := #[] }] 32)) = w0 at *
  generalize wc.heap.size + 1 = k at *
  generalize wc.heap.size = b at *
  refine Calls.mono (jqNumber hs E0.out HJ0.out) ?_
  rintro e v0 ⟨rfl, J1, ho1⟩
  have c1 := J1.at 0 (.int .i64 0) rfl
  have f1 := J1.free 0
  have HJ1 : Hid (JQ s b k 32 w0 #[.int .i64 n0, .int .i64 0, .int .i64 0, .int .u64 0, .int .u64 0, .int .u64 0, .int .u64 0, .bool false, .slice none 0 0, .slice none 0 0, .int .i64 0, .int .i64 0, .string { data := #[] }] st1 (v0.setCell ⟨k, 0, none⟩ (.int .i64 n0))) := J1.set 0 _
  clear J1 HJ0 ho1
  go_wp2_with fail
  generalize v0.setCell ⟨k, 0, none⟩ (.int .i64 n0) = w1 at *
  clear c1 f1
  refine Calls.mono (jqNumber hs E1.out HJ1.out) ?_
  rintro e v1 ⟨rfl, J1, ho1⟩
  have c1 := J1.at 1 (.int .i64 0) rfl
  have f1 := J1.free 1
  have HJ2 : Hid (JQ s b k 32 w0 #[.int .i64 n0, .int .i64 n1, .int .i64 0, .int .u64 0, .int .u64 0, .int .u64 0, .int .u64 0, .bool false, .slice none 0 0, .slice none 0 0, .int .i64 0, .int .i64 0, .string { data := #[] }] st2 (v1.setCell ⟨k, 1, none⟩ (.int .i64 n1))) := J1.set 1 _
  clear J1 HJ1 ho1
  go_wp2_with fail
  generalize v1.setCell ⟨k, 1, none⟩ (.int .i64 n1) = w2 at *
  clear c1 f1
  refine Calls.mono (jqNumber hs E2.out HJ2.out) ?_
  rintro e v2 ⟨rfl, J1, ho1⟩
  have c1 := J1.at 2 (.int .i64 0) rfl
  have f1 := J1.free 2
  have HJ3 : Hid (JQ s b k 32 w0 #[.int .i64 n0, .int .i64 n1, .int .i64 n2, .int .u64 0, .int .u64 0, .int .u64 0, .int .u64 0, .bool false, .slice none 0 0, .slice none 0 0, .int .i64 0, .int .i64 0, .string { data := #[] }] st3 (v2.setCell ⟨k, 2, none⟩ (.int .i64 n2))) := J1.set 2 _
  clear J1 HJ2 ho1
  go_wp2_with fail
  generalize v2.setCell ⟨k, 2, none⟩ (.int .i64 n2) = w3 at *
  clear c1 f1
  refine Calls.mono (jqNum hs E3.out HJ3.out) ?_
  rintro e v3 ⟨rfl, J1, ho1⟩
  have c1 := J1.at 3 (.int .u64 0) rfl
  have f1 := J1.free 3
  have HJ4 : Hid (JQ s b k 32 w0 #[.int .i64 n0, .int .i64 n1, .int .i64 n2, .int .u64 n3, .int .u64 0, .int .u64 0, .int .u64 0, .bool false, .slice none 0 0, .slice none 0 0, .int .i64 0, .int .i64 0, .string { data := #[] }] st4 (v3.setCell ⟨k, 3, none⟩ (.int .u64 n3))) := J1.set 3 _
  clear J1 HJ3 ho1
  go_wp2_with fail
  generalize v3.setCell ⟨k, 3, none⟩ (.int .u64 n3) = w4 at *
  clear c1 f1
  refine Calls.mono (jqNum hs E4.out HJ4.out) ?_
  rintro e v4 ⟨rfl, J1, ho1⟩
  have c1 := J1.at 4 (.int .u64 0) rfl
  have f1 := J1.free 4
  have HJ5 : Hid (JQ s b k 32 w0 #[.int .i64 n0, .int .i64 n1, .int .i64 n2, .int .u64 n3, .int .u64 n4, .int .u64 0, .int .u64 0, .bool false, .slice none 0 0, .slice none 0 0, .int .i64 0, .int .i64 0, .string { data := #[] }] st5 (v4.setCell ⟨k, 4, none⟩ (.int .u64 n4))) := J1.set 4 _
  clear J1 HJ4 ho1
  go_wp2_with fail
  generalize v4.setCell ⟨k, 4, none⟩ (.int .u64 n4) = w5 at *
  clear c1 f1
  refine Calls.mono (jqNum hs E5.out HJ5.out) ?_
  rintro e v5 ⟨rfl, J1, ho1⟩
  have c1 := J1.at 5 (.int .u64 0) rfl
  have f1 := J1.free 5
  have HJ6 : Hid (JQ s b k 32 w0 #[.int .i64 n0, .int .i64 n1, .int .i64 n2, .int .u64 n3, .int .u64 n4, .int .u64 n5, .int .u64 0, .bool false, .slice none 0 0, .slice none 0 0, .int .i64 0, .int .i64 0, .string { data := #[] }] st6 (v5.setCell ⟨k, 5, none⟩ (.int .u64 n5))) := J1.set 5 _
  clear J1 HJ5 ho1
  go_wp2_with fail
  generalize v5.setCell ⟨k, 5, none⟩ (.int .u64 n5) = w6 at *
  clear c1 f1
  refine Calls.mono (jqNum hs E6.out HJ6.out) ?_
  rintro e v6 ⟨rfl, J1, ho1⟩
  have c1 := J1.at 6 (.int .u64 0) rfl
  have f1 := J1.free 6
  have HJ7 : Hid (JQ s b k 32 w0 #[.int .i64 n0, .int .i64 n1, .int .i64 n2, .int .u64 n3, .int .u64 n4, .int .u64 n5, .int .u64 n6, .bool false, .slice none 0 0, .slice none 0 0, .int .i64 0, .int .i64 0, .string { data := #[] }] st7 (v6.setCell ⟨k, 6, none⟩ (.int .u64 n6))) := J1.set 6 _
  clear J1 HJ6 ho1
  go_wp2_with fail
  generalize v6.setCell ⟨k, 6, none⟩ (.int .u64 n6) = w7 at *
  clear c1 f1
  refine Calls.mono (jqNum hs E7.out HJ7.out) ?_
  rintro e v7 ⟨rfl, J1, ho1⟩
  have c1 := J1.at 7 (.bool false) rfl
  have f1 := J1.free 7
  have HJ8 : Hid (JQ s b k 32 w0 #[.int .i64 n0, .int .i64 n1, .int .i64 n2, .int .u64 n3, .int .u64 n4, .int .u64 n5, .int .u64 n6, .bool ((n7 : Int) == 1), .slice none 0 0, .slice none 0 0, .int .i64 0, .int .i64 0, .string { data := #[] }] st8 (v7.setCell ⟨k, 7, none⟩ (.bool ((n7 : Int) == 1)))) := J1.set 7 _
  clear J1 HJ7 ho1
  go_wp2_with fail
  generalize v7.setCell ⟨k, 7, none⟩ (.bool ((n7 : Int) == 1)) = w8 at *
  clear c1 f1
  refine Calls.mono (jqCount (m := 8) (by decide) hs E8.out HJ8.out) ?_
  rintro e w10 ⟨rfl, J10, ho10⟩
  have HJ10 := hid J10
  have hne : ne ≤ 8 := by have := pCount_le 8 s st8; rw [E8.out] at this; exact this
  have hbl : b < w10.heap.size := J10.1.lt
  have hkl : k < w10.heap.size := J10.lt
  have h0l : w0.heap.size ≤ w10.heap.size := J10.2.2.1.2.2.2.1
  clear J10 HJ8 ho10
  obtain ⟨i0, hi, hz0, hz1, hz2⟩ := info_parts infoEntries
  go_wp2_with fail
  go_loopw [10] (fun i wr => ∃ (j : Nat) (v : Value), i = .int .i64 j ∧ j ≤ ne ∧ JQ s b k 32 w0 #[.int .i64 n0, .int .i64 n1, .int .i64 n2, .int .u64 n3, .int .u64 n4, .int .u64 n5, .int .u64 n6, .bool ((n7 : Int) == 1), v, .slice none 0 0, .int .i64 0, .int .i64 0, .string { data := #[] }] (many (rdEntryR s) j st9).2 wr ∧ wr.ownsRow w10.heap.size 58 3 v j (enVals (many (rdEntryR s) j st9).1) ∧ w10.heap.size ≤ wr.heap.size) (fun i _ => ne - (intOf i).toNat)
  case atStart => exact ⟨0, _, rfl, Nat.zero_le _, HJ10.out, World.ownsRow_nil _ _ _ _, Nat.le_refl _⟩
  case round =>
    obtain ⟨j, v, rfl, hj, J, ho, hsz⟩ := hrel
    obtain ⟨a, cap, rfl⟩ := (Cells.of_row ho [b, k] (by intro q hq; simp at hq; omega)).form
    by_cases hlt : j < ne
    · have HM := hid (show many (rdEntryR s) (j + 1) st9 = ((many (rdEntryR s) j st9).1 ++ [(rdEntryR s (many (rdEntryR s) j st9).2).1], (rdEntryR s (many (rdEntryR s) j st9).2).2) from rfl)
      generalize hst : many (rdEntryR s) j st9 = p at *
      obtain ⟨l, st⟩ := p
      simp only at ho J HM
      have HO := hid ho
      have HJ := hid J
      have HVN : Hid (∀ q, (Value.slice a j cap).ownBlock = some q → q < wr.heap.size) := fun q e => (ho.lt q e).2
      clear J ho hst
      go_wp2_with fail
      have JA := HJ.out.below ((Below.refl _ _).alloc (Nat.le_refl _) (.cells #[.int .u64 0, .int .i64 0, .string { data := #[] }] 58))
      have hg := heap_alloc_new wr (.cells #[.int .u64 0, .int .i64 0, .string { data := #[] }] 58)
      have HOA := hid (HO.out.alloc (.cells #[.int .u64 0, .int .i64 0, .string { data := #[] }] 58))
      refine Calls.mono (jqNum hs (n := (pNum s st).1) (st' := (pNum s st).2) rfl JA) ?_
      rintro e w11 ⟨rfl, J11, ho11⟩
      have hgb : wr.heap.size ≠ b := by omega
      have hgk : wr.heap.size ≠ k := by omega
      have hg11 : w11.heap[wr.heap.size]? = some (.cells #[.int .u64 0, .int .i64 0, .string { data := #[] }] 58) := (ho11.block _ (by simp) (fun e => by cases e; exact hgb rfl)).trans hg
      have HO11 := hid (HOA.out.kept ho11 (.inr (row_ne HOA.out hbl)))
      have hs11 := ho11.size
      rw [World.size_alloc] at hs11
      clear JA hg HOA ho11 HO HJ
      generalize hge : wr.heap.size = g at *
      have cg0 : w11.cell? ⟨g, 0, none⟩ = some (.int .u64 0) := cell_in hg11 0 _ rfl
      have fg0 := free_in hg11 0
      have HJ12 := hid (J11.other hgb hgk (by omega) 0 (.int .u64 ((pNum s st).1 : Nat)))
      have HG12 := hid (heap_set hg11 0 (.int .u64 ((pNum s st).1 : Nat)))
      have HO12 := hid (HO11.out.kept (grown_set w11 g 0 (.int .u64 ((pNum s st).1 : Nat))) (.inr (fun e => Nat.lt_irrefl _ (HVN.out g e))))
      have hs12 : g + 1 ≤ (w11.setCell ⟨g, 0, none⟩ (.int .u64 ((pNum s st).1 : Nat))).heap.size := by simpa [World.setCell] using hs11
      clear J11 hg11 HO11 hs11
      go_wp2_with fail
      generalize w11.setCell ⟨g, 0, none⟩ (.int .u64 ((pNum s st).1 : Nat)) = w12 at *
      clear cg0 fg0
      refine Calls.mono (jqNumber hs (n := (numI s (pNum s st).2).1) (st' := (numI s (pNum s st).2).2) rfl HJ12.out) ?_
      rintro e w13 ⟨rfl, J13, ho13⟩
      have hg13 := (ho13.block g (by omega) (fun e => by cases e; exact hgb rfl)).trans HG12.out
      have HO13 := hid (HO12.out.kept ho13 (.inr (row_ne HO12.out hbl)))
      have hs13 : g + 1 ≤ w13.heap.size := Nat.le_trans hs12 ho13.size
      clear HJ12 HG12 HO12 ho13 hs12
      have cg1 : w13.cell? ⟨g, 1, none⟩ = some (.int .i64 0) := cell_in hg13 1 _ rfl
      have fg1 := free_in hg13 1
      have HJ12b := hid (J13.other hgb hgk (by omega) 1 (.int .i64 (numI s (pNum s st).2).1))
      have HG12b := hid (heap_set hg13 1 (.int .i64 (numI s (pNum s st).2).1))
      have HO12b := hid (HO13.out.kept (grown_set w13 g 1 (.int .i64 (numI s (pNum s st).2).1)) (.inr (fun e => Nat.lt_irrefl _ (HVN.out g e))))
      have hs12b : g + 1 ≤ (w13.setCell ⟨g, 1, none⟩ (.int .i64 (numI s (pNum s st).2).1)).heap.size := by simpa [World.setCell] using hs13
      clear J13 hg13 HO13 hs13
      go_wp2_with fail
      generalize w13.setCell ⟨g, 1, none⟩ (.int .i64 (numI s (pNum s st).2).1) = w12b at *
      clear cg1 fg1
      refine Calls.mono (jqText (m := 2048) (by decide) hs (x := (pText 2048 s (numI s (pNum s st).2).2).1) (st' := (pText 2048 s (numI s (pNum s st).2).2).2) rfl HJ12b.out) ?_
      rintro e w13b ⟨rfl, J13, ho13⟩
      have hg13 := (ho13.block g (by omega) (fun e => by cases e; exact hgb rfl)).trans HG12b.out
      have HO13 := hid (HO12b.out.kept ho13 (.inr (row_ne HO12b.out hbl)))
      have hs13 : g + 1 ≤ w13b.heap.size := Nat.le_trans hs12b ho13.size
      clear HJ12b HG12b HO12b ho13 hs12b
      have cg2 : w13b.cell? ⟨g, 2, none⟩ = some (.string { data := #[] }) := cell_in hg13 2 _ rfl
      have fg2 := free_in hg13 2
      have J14 := J13.other hgb hgk (by omega) 2 (.string (str (pText 2048 s (numI s (pNum s st).2).2).1))
      have hg14 := heap_set hg13 2 (.string (str (pText 2048 s (numI s (pNum s st).2).2).1))
      have ho14 := HO13.out.kept (grown_set w13b g 2 (.string (str (pText 2048 s (numI s (pNum s st).2).2).1))) (.inr (fun e => Nat.lt_irrefl _ (HVN.out g e)))
      have hs14 : g + 1 ≤ (w13b.setCell ⟨g, 2, none⟩ (.string (str (pText 2048 s (numI s (pNum s st).2).2).1))).heap.size := by simpa [World.setCell] using hs13
      have c8 : (w13b.setCell ⟨g, 2, none⟩ (.string (str (pText 2048 s (numI s (pNum s st).2).2).1))).cell? ⟨k, 8, none⟩ = some (.slice a j cap) := J14.at 8 _ rfl
      have d0 : (w13b.setCell ⟨g, 2, none⟩ (.string (str (pText 2048 s (numI s (pNum s st).2).2).1))).cell? ⟨g, 0, none⟩ = some (.int .u64 ((pNum s st).1 : Nat)) := cell_in hg14 0 _ rfl
      have d1 : (w13b.setCell ⟨g, 2, none⟩ (.string (str (pText 2048 s (numI s (pNum s st).2).2).1))).cell? ⟨g, 1, none⟩ = some (.int .i64 (numI s (pNum s st).2).1) := cell_in hg14 1 _ rfl
      have d2 : (w13b.setCell ⟨g, 2, none⟩ (.string (str (pText 2048 s (numI s (pNum s st).2).2).1))).cell? ⟨g, 2, none⟩ = some (.string (str (pText 2048 s (numI s (pNum s st).2).2).1)) := cell_in hg14 2 _ rfl
      have HJ14 := hid J14
      have HO14 := hid ho14
      have HM2 := hid (show (rdEntryR s st).1 = ⟨(pNum s st).1, (numI s (pNum s st).2).1, (pText 2048 s (numI s (pNum s st).2).2).1⟩ from rfl)
      have HM3 := hid (show (rdEntryR s st).2 = (pText 2048 s (numI s (pNum s st).2).2).2 from rfl)
      clear J13 J14 hg14 ho14 hg13 HO13 hs13
      go_wp2_with (at_builtin; refine wpList_append_own _ rfl _ _ 29 rfl w10.heap.size 58 i0 (.agg #[.int .u64 0, .int .i64 0, .string { data := #[] }]) 3 32 Try.underlying29 hi hz0 hz1 hz2 rfl (by decide) _ _ _ rfl (HO14.out.alloc _) ⟨(w13b.setCell ⟨g, 2, none⟩ (.string (str (pText 2048 s (numI s (pNum s st).2).2).1))).heap.size, 0, none⟩ 1 1 [.int .u64 ((pNum s st).1 : Nat), .int .i64 (numI s (pNum s st).2).1, .string (str (pText 2048 s (numI s (pNum s st).2).2).1)] (by simp [World.setCell]; rfl) rfl (hold_three _ _ _ _) (by simp [Value.oneCell']) (by unfold maxLen; omega) (by omega) (by rw [World.size_alloc]; omega) ?_; intro v' w15 hown' hgrow _; obtain ⟨g', cap', rfl⟩ := ownsRow_succ hown'; have J15 := (HJ14.out.below ((Below.refl _ _).alloc (Nat.le_refl _) _)).grown hgrow (row_ne HO14.out hbl) (row_ne HO14.out hkl) (fun q e => Nat.le_trans h0l (HO14.out.lt q e).1); have c8' := J15.at 8 (.slice a j cap) rfl; have f8' := J15.free 8)
      have J16 : JQ s b k 32 w0 #[.int .i64 n0, .int .i64 n1, .int .i64 n2, .int .u64 n3, .int .u64 n4, .int .u64 n5, .int .u64 n6, .bool ((n7 : Int) == 1), .slice (some ⟨g', 0, none⟩) (j + 1) cap', .slice none 0 0, .int .i64 0, .int .i64 0, .string { data := #[] }] _ (w15.setCell ⟨k, 8, none⟩ (.slice (some ⟨g', 0, none⟩) (j + 1) cap')) := J15.set 8 _
      go_roundw
      case rel =>
        refine ⟨j + 1, .slice (some ⟨g', 0, none⟩) (j + 1) cap', by go_num, by omega, ?_, ?_, ?_⟩
        · rw [HM.out]
          simp only [HM3.out]
          exact J16
        · rw [HM.out]
          simp only [enVals_snoc, HM2.out]
          exact hown'.kept (grown_set _ _ _ _) (.inr (row_ne hown' hkl))
        · have := hgrow.size
          rw [World.size_alloc] at this
          simp only [World.setCell, Array.size_modify]
          simp only [World.setCell, Array.size_modify] at this hs14
          omega
      case measure => simp [intOf]; omega
    · obtain rfl : j = ne := by omega
      rw [M8.out] at J ho
      simp only at J ho
      have HU := hid (Cells.of_row ho [b, k, w.heap.size] (by intro q hq; simp at hq; omega))
      have HJ20 := hid J
      clear J ho
      go_wp2_with fail
      refine Calls.mono (jqCount (m := 5) (by decide) hs E9.out HJ20.out) ?_
      rintro e w20 ⟨rfl, J20, ho20⟩
      have HU20 := hid (HU.out.kept2D (Kept2.only (k := k) ho20) (by simp))
      have HJ21 : Hid (JQ s b k 32 w20 #[.int .i64 n0, .int .i64 n1, .int .i64 n2, .int .u64 n3, .int .u64 n4, .int .u64 n5, .int .u64 n6, .bool ((n7 : Int) == 1), .slice a j cap, .slice none 0 0, .int .i64 0, .int .i64 0, .string { data := #[] }] st11 w20) := ⟨J20.1, J20.2.1, .refl _ _ _, J20.2.2.2⟩
      have HK20 := hid J20.2.2.1
      have hbl20 : b < w20.heap.size := J20.1.lt
      have hkl20 : k < w20.heap.size := J20.lt
      have hnc : nc ≤ 5 := by have := pCount_le 5 s st10; rw [E9.out] at this; exact this
      have hsz20 := Nat.le_trans hsz ho20.size
      clear HJ20 HU J20 ho20
      obtain ⟨i1, hi1, hy0, hy1, hy2⟩ := info_parts infoConfs
      go_wp2_with fail
      go_loopw [12] (fun i wr => ∃ (q : Nat) (v : Value), i = .int .i64 q ∧ q ≤ nc ∧ JQ s b k 32 w20 #[.int .i64 n0, .int .i64 n1, .int .i64 n2, .int .u64 n3, .int .u64 n4, .int .u64 n5, .int .u64 n6, .bool ((n7 : Int) == 1), .slice a j cap, v, .int .i64 0, .int .i64 0, .string { data := #[] }] (many (numI s) q st11).2 wr ∧ wr.ownsRow w20.heap.size 3 1 v q (intVals (many (numI s) q st11).1)) (fun i _ => nc - (intOf i).toNat)
      case atStart => exact ⟨0, _, rfl, Nat.zero_le _, HJ21.out, World.ownsRow_nil _ _ _ _⟩
      case round =>
        obtain ⟨q, v, rfl, hq, J, ho⟩ := hrel
        obtain ⟨a2, cap2, rfl⟩ := (Cells.of_row ho [b, k] (by intro z hz; simp at hz; omega)).form
        by_cases hlt2 : q < nc
        · have HM := hid (show many (numI s) (q + 1) st11 = ((many (numI s) q st11).1 ++ [(numI s (many (numI s) q st11).2).1], (numI s (many (numI s) q st11).2).2) from rfl)
          generalize hst : many (numI s) q st11 = p at *
          obtain ⟨l, st⟩ := p
          simp only at ho J HM
          clear hst
          go_wp2_with fail
          have hX0 : JQ s b k 32 w20 #[.int .i64 n0, .int .i64 n1, .int .i64 n2, .int .u64 n3, .int .u64 n4, .int .u64 n5, .int .u64 n6, .bool ((n7 : Int) == 1), .slice a j cap, .slice a2 q cap2, .int .i64 0, .int .i64 0, .string { data := #[] }] st wr.drew ∧ wr.drew.ownsRow w20.heap.size 3 1 (.slice a2 q cap2) q (intVals l) := ⟨J, ho⟩
          clear J ho
          refine wp_region_held_drew (S := fun _ => True) (by kernel_rfl) trivial (fun hHeld => ?_)
          refine wpAnyH_takeD (i := 0) (d := 87) (v := .pointer (some ⟨k, 9, none⟩)) rfl rfl rfl (by kernel_rfl) (by kernel_rfl) (by kernel_rfl) (fun _ _ _ _ h => h) ?ha hHeld ?_
          case ha => intro w _; go_simp
          simp only [Act.put, List.setIfInBounds_toArray, List.set_cons_zero, List.set_cons_succ]
          refine wpAnyH_takeD (i := 2) (d := 89) (v := .pointer (some ⟨b, 0, none⟩)) rfl rfl rfl (by kernel_rfl) (by kernel_rfl) (by kernel_rfl) (fun _ _ _ _ h => h) ?ha2 hHeld ?_
          case ha2 => intro w _; go_simp
          simp only [Act.put, List.setIfInBounds_toArray, List.set_cons_zero, List.set_cons_succ]
          refine Pend.start (al := 1) (d := 88) (v := .slice a2 q cap2) (X := fun W => JQ s b k 32 w20 #[.int .i64 n0, .int .i64 n1, .int .i64 n2, .int .u64 n3, .int .u64 n4, .int .u64 n5, .int .u64 n6, .bool ((n7 : Int) == 1), .slice a j cap, .slice a2 q cap2, .int .i64 0, .int .i64 0, .string { data := #[] }] st W ∧ W.ownsRow w20.heap.size 3 1 (.slice a2 q cap2) q (intVals l)) ?_ hX0
          refine Pend.step (ci := 3) (dc := 90) (rs := [1, 3]) (X' := fun u W => u = .int .i64 (numI s st).1 ∧ JQ s b k 32 w20 #[.int .i64 n0, .int .i64 n1, .int .i64 n2, .int .u64 n3, .int .u64 n4, .int .u64 n5, .int .u64 n6, .bool ((n7 : Int) == 1), .slice a j cap, .slice a2 q cap2, .int .i64 0, .int .i64 0, .string { data := #[] }] (numI s st).2 W ∧ W.ownsRow w20.heap.size 3 1 (.slice a2 q cap2) q (intVals l)) rfl rfl rfl (fun _ => trivial) rfl rfl rfl (by kernel_rfl) (by kernel_rfl) (by kernel_rfl) (by kernel_rfl) (by kernel_rfl) (by kernel_rfl) (by kernel_rfl) (fun _ _ _ _ h => h) ?r1 ?w1 ?_
          case r1 =>
            intro W hX
            have c9 : W.cell? ⟨k, 9, none⟩ = some (.slice a2 q cap2) := hX.1.at 9 _ rfl
            go_simp
          case w1 =>
            intro W K hX hK
            simp only [Act.put, List.setIfInBounds_toArray, List.set_cons_zero, List.set_cons_succ] at hK
            go_simp
            refine Calls.mono (jqNumber hs (n := (numI s st).1) (st' := (numI s st).2) rfl hX.1) ?_
            rintro e W' ⟨rfl, hJ', hO'⟩
            exact hK _ _ ⟨rfl, hJ', hX.2.kept hO' (.inr (row_ne hX.2 hbl20))⟩
          intro u1
          simp only [Act.put, List.setIfInBounds_toArray, List.set_cons_zero, List.set_cons_succ]
          refine Pend.step (ci := 4) (dc := 91) (rs := [1, 4]) (X' := fun u W => ∃ g, u = .slice (some ⟨g, 0, none⟩) 1 1 ∧ W.heap[g]? = some (.cells #[.int .i64 (numI s st).1] 3) ∧ JQ s b k 32 w20 #[.int .i64 n0, .int .i64 n1, .int .i64 n2, .int .u64 n3, .int .u64 n4, .int .u64 n5, .int .u64 n6, .bool ((n7 : Int) == 1), .slice a j cap, .slice a2 q cap2, .int .i64 0, .int .i64 0, .string { data := #[] }] (numI s st).2 W ∧ W.ownsRow w20.heap.size 3 1 (.slice a2 q cap2) q (intVals l)) rfl rfl rfl (fun _ => trivial) rfl rfl rfl (by kernel_rfl) (by kernel_rfl) (by kernel_rfl) (by kernel_rfl) (by kernel_rfl) (by kernel_rfl) (by kernel_rfl) (fun _ _ _ _ h => h) ?r2 ?w2 ?_
          case r2 =>
            intro W hX
            have c9 : W.cell? ⟨k, 9, none⟩ = some (.slice a2 q cap2) := hX.2.1.at 9 _ rfl
            go_simp
          case w2 =>
            intro W K hX hK
            obtain ⟨rfl, hJ, hO⟩ := hX
            simp only [Act.put, List.setIfInBounds_toArray, List.set_cons_zero, List.set_cons_succ] at hK
            go_simp
            exact hK _ _ ⟨_, rfl, heap_alloc_new _ _, hJ.below ((Below.refl _ _).alloc (Nat.le_refl _) _), hO.alloc _⟩
          intro u2
          simp only [Act.put, List.setIfInBounds_toArray, List.set_cons_zero, List.set_cons_succ]
          refine Pend.base rfl rfl rfl (fun _ => trivial) (by kernel_rfl) ?r3 ?_
          case r3 =>
            intro W hX
            obtain ⟨g, rfl, hg, hJ, hO⟩ := hX
            have c9 : W.cell? ⟨k, 9, none⟩ = some (.slice a2 q cap2) := hJ.at 9 _ rfl
            go_simp
          intro W hX
          obtain ⟨g, rfl, hg, hJ, hO⟩ := hX
          simp only [Act.put, List.setIfInBounds_toArray, List.set_cons_zero, List.set_cons_succ]
          refine wpAnyH_one (i := 5) rfl rfl (by kernel_rfl) ?_
          have hnews : ∀ j u, [Value.int .i64 (numI s st).1][j]? = some u → W.cell? ((⟨g, 0, none⟩ : Addr).add j) = some u := by
            intro j u hu
            rw [show (⟨g, 0, none⟩ : Addr).add j = ⟨g, j, none⟩ from by unfold Addr.add; split <;> simp_all]
            exact cell_in hg j u (by simpa using hu)
          refine wp_append_own (w := W) _ _ 30 rfl w20.heap.size 3 i1 (.int .i64 0) 1 8 Try.underlying30 hi1 hy0 hy1 hy2 rfl (by decide) (.slice a2 q cap2) q (intVals l) rfl hO ⟨g, 0, none⟩ 1 1 [.int .i64 (numI s st).1] rfl rfl hnews (by simp [Value.oneCell']) (by unfold maxLen; omega) (by omega) hJ.2.2.1.2.2.2.1 ?_
          intro v' w25 hown' hgrow _
          obtain ⟨g', cap', rfl⟩ := ownsRow_succ hown'
          have J25 := hJ.grown hgrow (row_ne hO hbl20) (row_ne hO hkl20) (fun z e => (hO.lt z e).1)
          have c9' := J25.at 9 (.slice a2 q cap2) rfl
          have f9' := J25.free 9
          have J26 : JQ s b k 32 w20 #[.int .i64 n0, .int .i64 n1, .int .i64 n2, .int .u64 n3, .int .u64 n4, .int .u64 n5, .int .u64 n6, .bool ((n7 : Int) == 1), .slice a j cap, (.slice (some ⟨g', 0, none⟩) (q + 1) cap'), .int .i64 0, .int .i64 0, .string { data := #[] }] _ (w25.setCell ⟨k, 9, none⟩ (.slice (some ⟨g', 0, none⟩) (q + 1) cap')) := J25.set 9 _
          clear hJ hO hg hnews J25 hgrow
          refine ⟨trivial, ?_⟩
          simp only [Act.put, List.setIfInBounds_toArray, List.set_cons_zero, List.set_cons_succ]
          refine wpAnyH_takeD (i := 6) (d := 93) (v := .pointer (some ⟨k, 9, none⟩)) rfl rfl rfl (by kernel_rfl) (by kernel_rfl) (by kernel_rfl) (fun _ _ _ _ h => h) ?ha6 trivial ?_
          case ha6 => intro w _; go_simp
          simp only [Act.put, List.setIfInBounds_toArray, List.set_cons_zero, List.set_cons_succ]
          refine wpAnyH_one (i := 7) rfl rfl (by kernel_rfl) ?_
          go_simp
          refine ⟨by kernel_rfl, ?_⟩
          have HJ26 := hid J26
          have HO26 := hid (hown'.kept (grown_set w25 k 9 (.slice (some ⟨g', 0, none⟩) (q + 1) cap')) (.inr (row_ne hown' hkl20)))
          clear J26 hown' c9' f9'
          go_wp2_with fail
          go_roundw
          case rel =>
            refine ⟨q + 1, .slice (some ⟨g', 0, none⟩) (q + 1) cap', by go_num, by omega, ?_, ?_⟩
            · rw [HM.out]
              exact HJ26.out
            · rw [HM.out]
              simp only [intVals_snoc]
              exact HO26.out
          case measure => simp [intOf]; omega
        · obtain rfl : q = nc := by omega
          rw [M9.out] at J ho
          simp only at J ho
          have HF30 := hid (Cells.of_row ho [b, k, w.heap.size] (by intro z hz; simp at hz; omega))
          have HU30 := hid (HU20.out.kept2D J.2.2.1 (by simp))
          have HJ30 : Hid (JQ s b k 32 w0 #[.int .i64 n0, .int .i64 n1, .int .i64 n2, .int .u64 n3, .int .u64 n4, .int .u64 n5, .int .u64 n6, .bool ((n7 : Int) == 1), .slice a j cap, .slice a2 q cap2, .int .i64 0, .int .i64 0, .string { data := #[] }] st12 wr) := ⟨J.1, J.2.1, HK20.out.trans J.2.2.1, J.2.2.2⟩
          clear J ho HU20 HK20
          go_wp2_with fail
          refine Calls.mono (jqNumber hs E10.out HJ30.out) ?_
          rintro e v30 ⟨rfl, J1, ho1⟩
          have c1 := J1.at 10 (.int .i64 0) rfl
          have f1 := J1.free 10
          have HJ31 : Hid (JQ s b k 32 w0 #[.int .i64 n0, .int .i64 n1, .int .i64 n2, .int .u64 n3, .int .u64 n4, .int .u64 n5, .int .u64 n6, .bool ((n7 : Int) == 1), .slice a j cap, .slice a2 q cap2, .int .i64 n10, .int .i64 0, .string { data := #[] }] st13 (v30.setCell ⟨k, 10, none⟩ (.int .i64 n10))) := J1.set 10 _
          have HU31 := hid ((HU30.out.kept2D (Kept2.only (k := k) ho1) (by simp)).kept2D ((Kept2.refl b k v30).set 10 (.int .i64 n10)) (by simp))
          have HF31 := hid ((HF30.out.kept2D (Kept2.only (k := k) ho1) (by simp)).kept2D ((Kept2.refl b k v30).set 10 (.int .i64 n10)) (by simp))
          clear J1 HJ30 ho1 HU30 HF30
          go_wp2_with (fail)
          generalize v30.setCell ⟨k, 10, none⟩ (.int .i64 n10) = w31 at *
          clear c1 f1
          refine Calls.mono (jqNumber hs E11.out HJ31.out) ?_
          rintro e v31 ⟨rfl, J1, ho1⟩
          have c1 := J1.at 11 (.int .i64 0) rfl
          have f1 := J1.free 11
          have HJ32 : Hid (JQ s b k 32 w0 #[.int .i64 n0, .int .i64 n1, .int .i64 n2, .int .u64 n3, .int .u64 n4, .int .u64 n5, .int .u64 n6, .bool ((n7 : Int) == 1), .slice a j cap, .slice a2 q cap2, .int .i64 n10, .int .i64 n11, .string { data := #[] }] st14 (v31.setCell ⟨k, 11, none⟩ (.int .i64 n11))) := J1.set 11 _
          have HU32 := hid ((HU31.out.kept2D (Kept2.only (k := k) ho1) (by simp)).kept2D ((Kept2.refl b k v31).set 11 (.int .i64 n11)) (by simp))
          have HF32 := hid ((HF31.out.kept2D (Kept2.only (k := k) ho1) (by simp)).kept2D ((Kept2.refl b k v31).set 11 (.int .i64 n11)) (by simp))
          clear J1 HJ31 ho1 HU31 HF31
          go_wp2_with (fail)
          generalize v31.setCell ⟨k, 11, none⟩ (.int .i64 n11) = w32 at *
          clear c1 f1
          refine Calls.mono (jqText (m := 4096) (by decide) hs E12.out HJ32.out) ?_
          rintro e v32 ⟨rfl, J1, ho1⟩
          have c1 := J1.at 12 (.string { data := #[] }) rfl
          have f1 := J1.free 12
          have HJ33 : Hid (JQ s b k 32 w0 #[.int .i64 n0, .int .i64 n1, .int .i64 n2, .int .u64 n3, .int .u64 n4, .int .u64 n5, .int .u64 n6, .bool ((n7 : Int) == 1), .slice a j cap, .slice a2 q cap2, .int .i64 n10, .int .i64 n11, .string (str x12)] st15 (v32.setCell ⟨k, 12, none⟩ (.string (str x12)))) := J1.set 12 _
          have HU33 := hid ((HU32.out.kept2D (Kept2.only (k := k) ho1) (by simp)).kept2D ((Kept2.refl b k v32).set 12 (.string (str x12))) (by simp))
          have HF33 := hid ((HF32.out.kept2D (Kept2.only (k := k) ho1) (by simp)).kept2D ((Kept2.refl b k v32).set 12 (.string (str x12))) (by simp))
          clear J1 HJ32 ho1 HU32 HF32
          go_wp2_with (refine wpList_load_row rfl 32 _ rfl k (by rfl) 32 #[.int .i64 n0, .int .i64 n1, .int .i64 n2, .int .u64 n3, .int .u64 n4, .int .u64 n5, .int .u64 n6, .bool ((n7 : Int) == 1), .slice a j cap, .slice a2 q cap2, .int .i64 n10, .int .i64 n11, .string (str x12)] (0, 0) _ HJ33.out.blk Try.underlying32 rfl sizeMsg ?_)
          generalize v32.setCell ⟨k, 12, none⟩ (.string (str x12)) = w33 at *
          clear c1 f1
          have hlu : le.length = j := by have := many_len (rdEntryR s) j st9; rw [M8.out] at this; exact this
          have hlf : lc.length = q := by have := many_len (numI s) q st11; rw [M9.out] at this; exact this
          have hux : Cells [b, k, w.heap.size] w33 (.slice a j cap) x.entries.length (enVals x.entries) := by rw [hx.out]; simp only; rw [hlu]; exact HU33.out
          have hfx : Cells [b, k, w.heap.size] w33 (.slice a2 q cap2) x.conf.length (intVals x.conf) := by rw [hx.out]; simp only; rw [hlf]; exact HF33.out
          have hcx : x.cells (.slice a j cap) (.slice a2 q cap2) = #[.int .i64 n0, .int .i64 n1, .int .i64 n2, .int .u64 n3, .int .u64 n4, .int .u64 n5, .int .u64 n6, .bool ((n7 : Int) == 1), .slice a j cap, .slice a2 q cap2, .int .i64 n10, .int .i64 n11, .string (str x12)] := by rw [hx.out]; rfl
          have hul : x.entries.length ≤ 1152921504606846976 := by rw [hx.out]; simp only; omega
          have hfl : x.conf.length ≤ 1152921504606846976 := by rw [hx.out]; simp only; omega
          have hZ1 : msgZ.all (·.oneCell') = true := by simp [msgZ, Value.oneCell']
          have HW := hid (refMayMs_any x _ _ w33 _ hux hfx hul hfl hxf.out hxl.out)
          have HUX := hid hux
          have HFX := hid hfx
          rw [hcx] at HW
          have HJ33b := hid (show w33.heap[k]? = some (.cells (x.cells (.slice a j cap) (.slice a2 q cap2)) 32) by rw [hcx]; exact HJ33.out.2.1)
          have HR33 := hid ((HJ33.out.2.2.1.2.2.2.2 w.heap.size (Array.getElem?_eq_some_iff.1 HR0.out).1 (by omega) (by omega)).trans HR0.out)
          have HB33 := hid (Kept2.to_below HB0.out HJ33.out.2.2.1 HB0.out.size (by omega) (by omega))
          clear hux hfx hcx hul hfl hlu hlf HU33 HF33 HJ33 HR0 HB0
          refine Calls.mono HW.out ?_
          rintro e w37 ⟨rfl, hb37⟩
          have HJ37 := hid ((hb37.block k (Array.getElem?_eq_some_iff.1 HJ33b.out).1).trans HJ33b.out)
          have HR37 := hid ((hb37.block w.heap.size (Array.getElem?_eq_some_iff.1 HR33.out).1).trans HR33.out)
          have HB37 := hid (HB33.out.trans (hb37.mono HB33.out.size))
          have HU37 := hid (HUX.out.below hb37)
          have HF37 := hid (HFX.out.below hb37)
          clear hb37 HJ33b HR33 HB33 HUX HFX HW
          cases hmr : mayMs x
          · have HO : Hid (msRef s x = (Ms.zero, 4)) := by
              show msRef s x = _
              unfold msRef
              rw [if_neg (fun h => by rw [hmr] at h; exact absurd h.1 (by simp))]
            go_wp2_with (refine wpList_store_row rfl 32 _ _ rfl w.heap.size msgZ (by rfl) (by rfl) 32 msgZ HR37.out sizeMsg rfl hZ1 ?_)
            rw [HO.out]
            refine bodyPost_ret (results_cell_tmp (by rfl) _ _ w.heap.size 32 msgZ (0, 0) _ (.int .i64 4) rfl rfl (setRow_heap _ _ _ _ _ _ HR37.out) Try.underlying32 rfl sizeMsg) rfl ?_
            exact ⟨.slice none 0 0, .slice none 0 0, rfl, Cells.nil _ _, Cells.nil _ _, below_row HB37.out (Nat.le_refl _) _⟩
          · have HW := hid (refBody_any x _ _ w37 _ HU37.out HF37.out hmr hfit.out)
            have hX1 := x.cells_one a a2 j q cap cap2
            go_wp2_with (refine load_row_behind rfl 32 _ rfl k (by rfl) 32 (x.cells (.slice a j cap) (.slice a2 q cap2)) (0, 0) _ HJ37.out Try.underlying32 rfl sizeMsg ?_)
            refine Calls.mono HW.out ?_
            rintro e w38 ⟨rfl, hb38⟩
            have HJ38 := hid ((hb38.block k (Array.getElem?_eq_some_iff.1 HJ37.out).1).trans HJ37.out)
            have HR38 := hid ((hb38.block w.heap.size (Array.getElem?_eq_some_iff.1 HR37.out).1).trans HR37.out)
            have HB38 := hid (HB37.out.trans (hb38.mono HB37.out.size))
            have HU38 := hid (HU37.out.below hb38)
            have HF38 := hid (HF37.out.below hb38)
            clear hb38 HJ37 HR37 HB37 HU37 HF37 HW
            by_cases hbs : x.body = s
            · have HO : Hid (msRef s x = (x, 0)) := by
                show msRef s x = _
                unfold msRef
                rw [if_pos ⟨hmr, hbs⟩]
              rw [hbs]
              clear hbs
              go_wp2_with (first | (refine wpList_load_row rfl 32 _ rfl k (by rfl) 32 (x.cells (.slice a j cap) (.slice a2 q cap2)) (0, 0) _ HJ38.out Try.underlying32 rfl sizeMsg ?_) | (refine wpList_store_row rfl 32 _ _ rfl w.heap.size (x.cells (.slice a j cap) (.slice a2 q cap2)) (by rfl) (by rfl) 32 msgZ HR38.out sizeMsg rfl hX1 ?_))
              rw [HO.out]
              refine bodyPost_ret (results_cell_tmp (by rfl) _ _ w.heap.size 32 (x.cells (.slice a j cap) (.slice a2 q cap2)) (0, 0) _ (.int .i64 0) rfl rfl (setRow_heap _ _ _ _ _ _ HR38.out) Try.underlying32 rfl sizeMsg) rfl ?_
              exact ⟨.slice a j cap, .slice a2 q cap2, rfl, (HU38.out.rowD (by simp) _).sub (by simp), (HF38.out.rowD (by simp) _).sub (by simp), below_row HB38.out (Nat.le_refl _) _⟩
            · have HO : Hid (msRef s x = (Ms.zero, 4)) := by
                show msRef s x = _
                unfold msRef
                rw [if_neg (fun h => hbs h.2)]
              generalize x.body = z at *
              have hne1 : ((str z).toList == (str s).toList) = false := by
                rw [ByteArray.toList_eq, ByteArray.toList_eq]
                exact beq_eq_false_iff_ne.2 hbs
              clear hbs
              go_wp2_with (refine wpList_store_row rfl 32 _ _ rfl w.heap.size msgZ (by rfl) (by rfl) 32 msgZ HR38.out sizeMsg rfl hZ1 ?_)
              rw [HO.out]
              refine bodyPost_ret (results_cell_tmp (by rfl) _ _ w.heap.size 32 msgZ (0, 0) _ (.int .i64 4) rfl rfl (setRow_heap _ _ _ _ _ _ HR38.out) Try.underlying32 rfl sizeMsg) rfl ?_
              exact ⟨.slice none 0 0, .slice none 0 0, rfl, Cells.nil _ _, Cells.nil _ _, below_row HB38.out (Nat.le_refl _) _⟩
end Go.Proofs.Ytgkapgfpalbkjaa
