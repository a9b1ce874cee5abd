/-
  The walk of the reference's ReadRequest.
-/
import Derived.Test.YtgkapgfpalbkjaaRefJQ
import Derived.Test.YtgkapgfpalbkjaaWMany
import Derived.Test.YtgkapgfpalbkjaaPend
import Derived.Test.YtgkapgfpalbkjaaRefWrite
namespace Go.Proofs.Ytgkapgfpalbkjaa
open Go.RowKit
set_option linter.unusedVariables false
set_option linter.unusedSimpArgs false
/-- what the reference's ReadRequest tells, x being the request that was read -/
def rqRef (s : Bytes) (x : Rq) : Rq × Bool := if mayRq x = true ∧ x.bytes = s then (x, true) else (Rq.zero, false)
set_option maxRecDepth 100000 in
set_option maxHeartbeats 8000000 in
theorem refRq_at (s : Bytes) (hs : s.length ≤ 1152921504606846976) (w : World) {n0 n3 n11 : Int} {n1 n2 n4 n5 n8 nu nf n12 n13 n15 n16 : Nat} {x6 x7 x14 : Bytes} {lu : List (Nat × Nat)} {lf : List Bytes} {st1 st2 st3 st4 st5 st6 st7 st8 st9 st10 st11 st12 st13 st14 st15 st16 st17 st18 st19 : Nat × Nat}
    (E0 : Hid (numI s (0, 0) = (n0, st1))) (E1 : Hid (pNum s st1 = (n1, st2))) (E2 : Hid (pNum s st2 = (n2, st3))) (E3 : Hid (numI s st3 = (n3, st4))) (E4 : Hid (pNum s st4 = (n4, st5))) (E5 : Hid (pNum s st5 = (n5, st6))) (E6 : Hid (pText 64 s st6 = (x6, st7))) (E7 : Hid (pText 64 s st7 = (x7, st8))) (E8 : Hid (pNum s st8 = (n8, st9)))
    (E9 : Hid (pCount 64 s st9 = (nu, st10))) (M9 : Hid (many (rdRange s) nu st10 = (lu, st11))) (E10 : Hid (pCount 16 s st11 = (nf, st12))) (M10 : Hid (many (pText 32 s) nf st12 = (lf, st13)))
    (E11 : Hid (numI s st13 = (n11, st14))) (E12 : Hid (pNum s st14 = (n12, st15))) (E13 : Hid (pNum s st15 = (n13, st16))) (E14 : Hid (pText 32 s st16 = (x14, st17))) (E15 : Hid (pNum s st17 = (n15, st18))) (E16 : Hid (pNum s st18 = (n16, st19)))
    (x : Rq) (hx : Hid (x = ⟨n0, n1, n2, n3, n4, n5, x6, x7, n8, lu, lf, n11, ((n12 : Int) == 1), n13, x14, n15, n16⟩)) (hfit : Hid x.fit) (hxf : Hid (∀ f ∈ x.flags, f.length ≤ maxLen)) (hxl : Hid (x.box.length ≤ maxLen ∧ x.dest.length ≤ maxLen ∧ x.hash.length ≤ maxLen)) :
    Calls Try.prog 13 #[.string (str s)] w fun e w' => ∃ vu vf, e = .returned (.tuple #[.agg ((rqRef s x).1.cells vu vf), .bool (rqRef s x).2]) ∧
      Cells [] w' vu (rqRef s x).1.uids.length (rgVals (rqRef s x).1.uids) ∧ Cells [] w' vf (rqRef s x).1.flags.length (strVals (rqRef s x).1.flags) ∧ Below w.heap.size w w' := by
  go_enter Try.func13, Try.ntmps13
  go_wp2_with fail
  have h1 := heap_alloc_new w (.cells #[.int .i64 0, .int .u64 0, .int .u64 0, .int .i64 0, .int .u64 0, .int .u64 0, .string { data := #[] }, .string { data := #[] }, .int .u64 0, .slice none 0 0, .slice none 0 0, .int .i64 0, .bool false, .int .u64 0, .string { data := #[] }, .int .u64 0, .int .u64 0] 26)
  have h2 := heap_alloc_new (w.alloc (.cells #[.int .i64 0, .int .u64 0, .int .u64 0, .int .i64 0, .int .u64 0, .int .u64 0, .string { data := #[] }, .string { data := #[] }, .int .u64 0, .slice none 0 0, .slice none 0 0, .int .i64 0, .bool false, .int .u64 0, .string { data := #[] }, .int .u64 0, .int .u64 0] 26)) (.cells (rrCells s 0 0 0) 81)
  have h3 := heap_alloc_new ((w.alloc (.cells #[.int .i64 0, .int .u64 0, .int .u64 0, .int .i64 0, .int .u64 0, .int .u64 0, .string { data := #[] }, .string { data := #[] }, .int .u64 0, .slice none 0 0, .slice none 0 0, .int .i64 0, .bool false, .int .u64 0, .string { data := #[] }, .int .u64 0, .int .u64 0] 26)).alloc (.cells (rrCells s 0 0 0) 81)) (.cells #[.int .i64 0, .int .u64 0, .int .u64 0, .int .i64 0, .int .u64 0, .int .u64 0, .string { data := #[] }, .string { data := #[] }, .int .u64 0, .slice none 0 0, .slice none 0 0, .int .i64 0, .bool false, .int .u64 0, .string { data := #[] }, .int .u64 0, .int .u64 0] 26)
  rw [World.size_alloc] at h2
  rw [World.size_alloc, World.size_alloc] at h3
  have HR0 := hid (blk_alloc' (blk_alloc' h1 (.cells (rrCells s 0 0 0) 81)) (.cells #[.int .i64 0, .int .u64 0, .int .u64 0, .int .i64 0, .int .u64 0, .int .u64 0, .string { data := #[] }, .string { data := #[] }, .int .u64 0, .slice none 0 0, .slice none 0 0, .int .i64 0, .bool false, .int .u64 0, .string { data := #[] }, .int .u64 0, .int .u64 0] 26))
  have HB0 : Hid (Below w.heap.size w (((w.alloc (.cells #[.int .i64 0, .int .u64 0, .int .u64 0, .int .i64 0, .int .u64 0, .int .u64 0, .string { data := #[] }, .string { data := #[] }, .int .u64 0, .slice none 0 0, .slice none 0 0, .int .i64 0, .bool false, .int .u64 0, .string { data := #[] }, .int .u64 0, .int .u64 0] 26)).alloc (.cells (rrCells s 0 0 0) 81)).alloc (.cells #[.int .i64 0, .int .u64 0, .int .u64 0, .int .i64 0, .int .u64 0, .int .u64 0, .string { data := #[] }, .string { data := #[] }, .int .u64 0, .slice none 0 0, .slice none 0 0, .int .i64 0, .bool false, .int .u64 0, .string { data := #[] }, .int .u64 0, .int .u64 0] 26))) := ((((Below.refl _ _).alloc (Nat.le_refl _) _).alloc (by simp) _).alloc (by simp; omega) _)
  have HJ0 : Hid (JQ s (w.heap.size + 1) (w.heap.size + 1 + 1) 26 (((w.alloc (.cells #[.int .i64 0, .int .u64 0, .int .u64 0, .int .i64 0, .int .u64 0, .int .u64 0, .string { data := #[] }, .string { data := #[] }, .int .u64 0, .slice none 0 0, .slice none 0 0, .int .i64 0, .bool false, .int .u64 0, .string { data := #[] }, .int .u64 0, .int .u64 0] 26)).alloc (.cells (rrCells s 0 0 0) 81)).alloc (.cells #[.int .i64 0, .int .u64 0, .int .u64 0, .int .i64 0, .int .u64 0, .int .u64 0, .string { data := #[] }, .string { data := #[] }, .int .u64 0, .slice none 0 0, .slice none 0 0, .int .i64 0, .bool false, .int .u64 0, .string { data := #[] }, .int .u64 0, .int .u64 0] 26)) #[.int .i64 0, .int .u64 0, .int .u64 0, .int .i64 0, .int .u64 0, .int .u64 0, .string { data := #[] }, .string { data := #[] }, .int .u64 0, .slice none 0 0, .slice none 0 0, .int .i64 0, .bool false, .int .u64 0, .string { data := #[] }, .int .u64 0, .int .u64 0] (0, 0) (((w.alloc (.cells #[.int .i64 0, .int .u64 0, .int .u64 0, .int .i64 0, .int .u64 0, .int .u64 0, .string { data := #[] }, .string { data := #[] }, .int .u64 0, .slice none 0 0, .slice none 0 0, .int .i64 0, .bool false, .int .u64 0, .string { data := #[] }, .int .u64 0, .int .u64 0] 26)).alloc (.cells (rrCells s 0 0 0) 81)).alloc (.cells #[.int .i64 0, .int .u64 0, .int .u64 0, .int .i64 0, .int .u64 0, .int .u64 0, .string { data := #[] }, .string { data := #[] }, .int .u64 0, .slice none 0 0, .slice none 0 0, .int .i64 0, .bool false, .int .u64 0, .string { data := #[] }, .int .u64 0, .int .u64 0] 26))) := ⟨⟨0, blk_alloc' h2 _, Nat.zero_le _⟩, h3, .refl _ _ _, by omega⟩
  clear h1 h2 h3
  have hb : w.heap.size < w.heap.size + 1 := by omega
  have hk : w.heap.size < w.heap.size + 1 + 1 := by omega
  unfold rrCells at *
  generalize (((w.alloc (.cells #[.int .i64 0, .int .u64 0, .int .u64 0, .int .i64 0, .int .u64 0, .int .u64 0, .string { data := #[] }, .string { data := #[] }, .int .u64 0, .slice none 0 0, .slice none 0 0, .int .i64 0, .bool false, .int .u64 0, .string { data := #[] }, .int .u64 0, .int .u64 0] 26)).alloc (.cells #[.string (str s), .int .i64 ((0 : Nat) : Int), .int .i64 ((0 : Nat) : Int), .int .i64 0] 81)).alloc (.cells #[.int .i64 0, .int .u64 0, .int .u64 0, .int .i64 0, .int .u64 0, .int .u64 0, .string { data := #[] }, .string { data := #[] }, .int .u64 0, .slice none 0 0, .slice none 0 0, .int .i64 0, .bool false, .int .u64 0, .string { data := #[] }, .int .u64 0, .int .u64 0] 26)) = w0 at *
  generalize w.heap.size + 1 + 1 = k at *
  generalize w.heap.size + 1 = b at *
  refine Calls.mono (jqNumber hs E0.out HJ0.out) ?_
  rintro e v0 ⟨rfl, J1, ho1⟩
  have c1 := J1.at 0 (.int .i64 0) rfl
  have f1 := J1.free 0
  have HJ1 : Hid (JQ s b k 26 w0 #[.int .i64 n0, .int .u64 0, .int .u64 0, .int .i64 0, .int .u64 0, .int .u64 0, .string { data := #[] }, .string { data := #[] }, .int .u64 0, .slice none 0 0, .slice none 0 0, .int .i64 0, .bool false, .int .u64 0, .string { data := #[] }, .int .u64 0, .int .u64 0] st1 (v0.setCell ⟨k, 0, none⟩ (.int .i64 n0))) := J1.set 0 _
  clear J1 HJ0 ho1
  go_wp2_with fail
  generalize v0.setCell ⟨k, 0, none⟩ (.int .i64 n0) = w1 at *
  clear c1 f1
  refine Calls.mono (jqNum hs E1.out HJ1.out) ?_
  rintro e v1 ⟨rfl, J1, ho1⟩
  have c1 := J1.at 1 (.int .u64 0) rfl
  have f1 := J1.free 1
  have HJ2 : Hid (JQ s b k 26 w0 #[.int .i64 n0, .int .u64 n1, .int .u64 0, .int .i64 0, .int .u64 0, .int .u64 0, .string { data := #[] }, .string { data := #[] }, .int .u64 0, .slice none 0 0, .slice none 0 0, .int .i64 0, .bool false, .int .u64 0, .string { data := #[] }, .int .u64 0, .int .u64 0] st2 (v1.setCell ⟨k, 1, none⟩ (.int .u64 n1))) := J1.set 1 _
  clear J1 HJ1 ho1
  go_wp2_with fail
  generalize v1.setCell ⟨k, 1, none⟩ (.int .u64 n1) = w2 at *
  clear c1 f1
  refine Calls.mono (jqNum hs E2.out HJ2.out) ?_
  rintro e v2 ⟨rfl, J1, ho1⟩
  have c1 := J1.at 2 (.int .u64 0) rfl
  have f1 := J1.free 2
  have HJ3 : Hid (JQ s b k 26 w0 #[.int .i64 n0, .int .u64 n1, .int .u64 n2, .int .i64 0, .int .u64 0, .int .u64 0, .string { data := #[] }, .string { data := #[] }, .int .u64 0, .slice none 0 0, .slice none 0 0, .int .i64 0, .bool false, .int .u64 0, .string { data := #[] }, .int .u64 0, .int .u64 0] st3 (v2.setCell ⟨k, 2, none⟩ (.int .u64 n2))) := J1.set 2 _
  clear J1 HJ2 ho1
  go_wp2_with fail
  generalize v2.setCell ⟨k, 2, none⟩ (.int .u64 n2) = w3 at *
  clear c1 f1
  refine Calls.mono (jqNumber hs E3.out HJ3.out) ?_
  rintro e v3 ⟨rfl, J1, ho1⟩
  have c1 := J1.at 3 (.int .i64 0) rfl
  have f1 := J1.free 3
  have HJ4 : Hid (JQ s b k 26 w0 #[.int .i64 n0, .int .u64 n1, .int .u64 n2, .int .i64 n3, .int .u64 0, .int .u64 0, .string { data := #[] }, .string { data := #[] }, .int .u64 0, .slice none 0 0, .slice none 0 0, .int .i64 0, .bool false, .int .u64 0, .string { data := #[] }, .int .u64 0, .int .u64 0] st4 (v3.setCell ⟨k, 3, none⟩ (.int .i64 n3))) := J1.set 3 _
  clear J1 HJ3 ho1
  go_wp2_with fail
  generalize v3.setCell ⟨k, 3, none⟩ (.int .i64 n3) = w4 at *
  clear c1 f1
  refine Calls.mono (jqNum hs E4.out HJ4.out) ?_
  rintro e v4 ⟨rfl, J1, ho1⟩
  have c1 := J1.at 4 (.int .u64 0) rfl
  have f1 := J1.free 4
  have HJ5 : Hid (JQ s b k 26 w0 #[.int .i64 n0, .int .u64 n1, .int .u64 n2, .int .i64 n3, .int .u64 n4, .int .u64 0, .string { data := #[] }, .string { data := #[] }, .int .u64 0, .slice none 0 0, .slice none 0 0, .int .i64 0, .bool false, .int .u64 0, .string { data := #[] }, .int .u64 0, .int .u64 0] st5 (v4.setCell ⟨k, 4, none⟩ (.int .u64 n4))) := J1.set 4 _
  clear J1 HJ4 ho1
  go_wp2_with fail
  generalize v4.setCell ⟨k, 4, none⟩ (.int .u64 n4) = w5 at *
  clear c1 f1
  refine Calls.mono (jqNum hs E5.out HJ5.out) ?_
  rintro e v5 ⟨rfl, J1, ho1⟩
  have c1 := J1.at 5 (.int .u64 0) rfl
  have f1 := J1.free 5
  have HJ6 : Hid (JQ s b k 26 w0 #[.int .i64 n0, .int .u64 n1, .int .u64 n2, .int .i64 n3, .int .u64 n4, .int .u64 n5, .string { data := #[] }, .string { data := #[] }, .int .u64 0, .slice none 0 0, .slice none 0 0, .int .i64 0, .bool false, .int .u64 0, .string { data := #[] }, .int .u64 0, .int .u64 0] st6 (v5.setCell ⟨k, 5, none⟩ (.int .u64 n5))) := J1.set 5 _
  clear J1 HJ5 ho1
  go_wp2_with fail
  generalize v5.setCell ⟨k, 5, none⟩ (.int .u64 n5) = w6 at *
  clear c1 f1
  refine Calls.mono (jqText (m := 64) (by decide) hs E6.out HJ6.out) ?_
  rintro e v6 ⟨rfl, J1, ho1⟩
  have c1 := J1.at 6 (.string { data := #[] }) rfl
  have f1 := J1.free 6
  have HJ7 : Hid (JQ s b k 26 w0 #[.int .i64 n0, .int .u64 n1, .int .u64 n2, .int .i64 n3, .int .u64 n4, .int .u64 n5, .string (str x6), .string { data := #[] }, .int .u64 0, .slice none 0 0, .slice none 0 0, .int .i64 0, .bool false, .int .u64 0, .string { data := #[] }, .int .u64 0, .int .u64 0] st7 (v6.setCell ⟨k, 6, none⟩ (.string (str x6)))) := J1.set 6 _
  clear J1 HJ6 ho1
  go_wp2_with fail
  generalize v6.setCell ⟨k, 6, none⟩ (.string (str x6)) = w7 at *
  clear c1 f1
  refine Calls.mono (jqText (m := 64) (by decide) hs E7.out HJ7.out) ?_
  rintro e v7 ⟨rfl, J1, ho1⟩
  have c1 := J1.at 7 (.string { data := #[] }) rfl
  have f1 := J1.free 7
  have HJ8 : Hid (JQ s b k 26 w0 #[.int .i64 n0, .int .u64 n1, .int .u64 n2, .int .i64 n3, .int .u64 n4, .int .u64 n5, .string (str x6), .string (str x7), .int .u64 0, .slice none 0 0, .slice none 0 0, .int .i64 0, .bool false, .int .u64 0, .string { data := #[] }, .int .u64 0, .int .u64 0] st8 (v7.setCell ⟨k, 7, none⟩ (.string (str x7)))) := J1.set 7 _
  clear J1 HJ7 ho1
  go_wp2_with fail
  generalize v7.setCell ⟨k, 7, none⟩ (.string (str x7)) = w8 at *
  clear c1 f1
  refine Calls.mono (jqNum hs E8.out HJ8.out) ?_
  rintro e v8 ⟨rfl, J1, ho1⟩
  have c1 := J1.at 8 (.int .u64 0) rfl
  have f1 := J1.free 8
  have HJ9 : Hid (JQ s b k 26 w0 #[.int .i64 n0, .int .u64 n1, .int .u64 n2, .int .i64 n3, .int .u64 n4, .int .u64 n5, .string (str x6), .string (str x7), .int .u64 n8, .slice none 0 0, .slice none 0 0, .int .i64 0, .bool false, .int .u64 0, .string { data := #[] }, .int .u64 0, .int .u64 0] st9 (v8.setCell ⟨k, 8, none⟩ (.int .u64 n8))) := J1.set 8 _
  clear J1 HJ8 ho1
  go_wp2_with fail
  generalize v8.setCell ⟨k, 8, none⟩ (.int .u64 n8) = w9 at *
  clear c1 f1
  refine Calls.mono (jqCount (m := 64) (by decide) hs E9.out HJ9.out) ?_
  rintro e w10 ⟨rfl, J10, ho10⟩
  have HJ10 := hid J10
  have hnu : nu ≤ 64 := by have := pCount_le 64 s st9; rw [E9.out] at this; exact this
  have hbl : b < w10.heap.size := J10.1.lt
  have hkl : k < w10.heap.size := J10.lt
  have h0l : w0.heap.size ≤ w10.heap.size := J10.2.2.1.2.2.2.1
  clear J10 HJ9 ho10
  obtain ⟨i0, hi, hz0, hz1, hz2⟩ := info_parts infoRanges
  go_wp2_with fail
  go_loopw [7] (fun i wr => ∃ (j : Nat) (v : Value), i = .int .i64 j ∧ j ≤ nu ∧ JQ s b k 26 w0 #[.int .i64 n0, .int .u64 n1, .int .u64 n2, .int .i64 n3, .int .u64 n4, .int .u64 n5, .string (str x6), .string (str x7), .int .u64 n8, v, .slice none 0 0, .int .i64 0, .bool false, .int .u64 0, .string { data := #[] }, .int .u64 0, .int .u64 0] (many (rdRange s) j st10).2 wr ∧ wr.ownsRow w10.heap.size 65 2 v j (rgVals (many (rdRange s) j st10).1) ∧ w10.heap.size ≤ wr.heap.size) (fun i _ => nu - (intOf i).toNat)
  case atStart => exact ⟨0, _, rfl, Nat.zero_le _, HJ10.out, World.ownsRow_nil _ _ _ _, Nat.le_refl _⟩
  case round =>
    obtain ⟨j, v, rfl, hj, J, ho, hsz⟩ := hrel
    obtain ⟨a, cap, rfl⟩ := (Cells.of_row ho [b, k] (by intro q hq; simp at hq; omega)).form
    by_cases hlt : j < nu
    · have HM := hid (show many (rdRange s) (j + 1) st10 = ((many (rdRange s) j st10).1 ++ [(rdRange s (many (rdRange s) j st10).2).1], (rdRange s (many (rdRange s) j st10).2).2) from rfl)
      generalize hst : many (rdRange s) j st10 = p at *
      obtain ⟨l, st⟩ := p
      simp only at ho J HM
      have HO := hid ho
      have HJ := hid J
      have HVN : Hid (∀ q, (Value.slice a j cap).ownBlock = some q → q < wr.heap.size) := fun q e => (ho.lt q e).2
      clear J ho hst
      go_wp2_with fail
      have JA := HJ.out.below ((Below.refl _ _).alloc (Nat.le_refl _) (.cells #[.int .u64 0, .int .u64 0] 65))
      have hg := heap_alloc_new wr (.cells #[.int .u64 0, .int .u64 0] 65)
      have HOA := hid (HO.out.alloc (.cells #[.int .u64 0, .int .u64 0] 65))
      refine Calls.mono (jqNum hs (n := (pNum s st).1) (st' := (pNum s st).2) rfl JA) ?_
      rintro e w11 ⟨rfl, J11, ho11⟩
      have hgb : wr.heap.size ≠ b := by omega
      have hgk : wr.heap.size ≠ k := by omega
      have hg11 : w11.heap[wr.heap.size]? = some (.cells #[.int .u64 0, .int .u64 0] 65) := (ho11.block _ (by simp) (fun e => by cases e; exact hgb rfl)).trans hg
      have HO11 := hid (HOA.out.kept ho11 (.inr (row_ne HOA.out hbl)))
      have hs11 := ho11.size
      rw [World.size_alloc] at hs11
      clear JA hg HOA ho11 HO HJ
      generalize hge : wr.heap.size = g at *
      have cg0 : w11.cell? ⟨g, 0, none⟩ = some (.int .u64 0) := cell_in hg11 0 _ rfl
      have fg0 := free_in hg11 0
      have HJ12 := hid (J11.other hgb hgk (by omega) 0 (.int .u64 ((pNum s st).1 : Nat)))
      have HG12 := hid (heap_set hg11 0 (.int .u64 ((pNum s st).1 : Nat)))
      have HO12 := hid (HO11.out.kept (grown_set w11 g 0 (.int .u64 ((pNum s st).1 : Nat))) (.inr (fun e => Nat.lt_irrefl _ (HVN.out g e))))
      have hs12 : g + 1 ≤ (w11.setCell ⟨g, 0, none⟩ (.int .u64 ((pNum s st).1 : Nat))).heap.size := by simpa [World.setCell] using hs11
      clear J11 hg11 HO11 hs11
      go_wp2_with fail
      generalize w11.setCell ⟨g, 0, none⟩ (.int .u64 ((pNum s st).1 : Nat)) = w12 at *
      clear cg0 fg0
      refine Calls.mono (jqNum hs (n := (pNum s (pNum s st).2).1) (st' := (pNum s (pNum s st).2).2) rfl HJ12.out) ?_
      rintro e w13 ⟨rfl, J13, ho13⟩
      have hg13 := (ho13.block g (by omega) (fun e => by cases e; exact hgb rfl)).trans HG12.out
      have HO13 := hid (HO12.out.kept ho13 (.inr (row_ne HO12.out hbl)))
      have hs13 : g + 1 ≤ w13.heap.size := Nat.le_trans hs12 ho13.size
      clear HJ12 HG12 HO12 ho13 hs12
      have cg1 : w13.cell? ⟨g, 1, none⟩ = some (.int .u64 0) := cell_in hg13 1 _ rfl
      have fg1 := free_in hg13 1
      have J14 := J13.other hgb hgk (by omega) 1 (.int .u64 ((pNum s (pNum s st).2).1 : Nat))
      have hg14 := heap_set hg13 1 (.int .u64 ((pNum s (pNum s st).2).1 : Nat))
      have ho14 := HO13.out.kept (grown_set w13 g 1 (.int .u64 ((pNum s (pNum s st).2).1 : Nat))) (.inr (fun e => Nat.lt_irrefl _ (HVN.out g e)))
      have hs14 : g + 1 ≤ (w13.setCell ⟨g, 1, none⟩ (.int .u64 ((pNum s (pNum s st).2).1 : Nat))).heap.size := by simpa [World.setCell] using hs13
      have c9 : (w13.setCell ⟨g, 1, none⟩ (.int .u64 ((pNum s (pNum s st).2).1 : Nat))).cell? ⟨k, 9, none⟩ = some (.slice a j cap) := J14.at 9 _ rfl
      have d0 : (w13.setCell ⟨g, 1, none⟩ (.int .u64 ((pNum s (pNum s st).2).1 : Nat))).cell? ⟨g, 0, none⟩ = some (.int .u64 ((pNum s st).1 : Nat)) := cell_in hg14 0 _ rfl
      have d1 : (w13.setCell ⟨g, 1, none⟩ (.int .u64 ((pNum s (pNum s st).2).1 : Nat))).cell? ⟨g, 1, none⟩ = some (.int .u64 ((pNum s (pNum s st).2).1 : Nat)) := cell_in hg14 1 _ rfl
      have HJ14 := hid J14
      have HO14 := hid ho14
      have HM2 := hid (show (rdRange s st).1 = ((pNum s st).1, (pNum s (pNum s st).2).1) from rfl)
      have HM3 := hid (show (rdRange s st).2 = (pNum s (pNum s st).2).2 from rfl)
      clear J13 J14 hg14 ho14 hg13 HO13 hs13
      go_wp2_with (at_builtin; refine wpList_append_own _ rfl _ _ 23 rfl w10.heap.size 65 i0 (.agg #[.int .u64 0, .int .u64 0]) 2 16 Try.underlying23 hi hz0 hz1 hz2 rfl (by decide) _ _ _ rfl (HO14.out.alloc _) ⟨(w13.setCell ⟨g, 1, none⟩ (.int .u64 ((pNum s (pNum s st).2).1 : Nat))).heap.size, 0, none⟩ 1 1 [.int .u64 ((pNum s st).1 : Nat), .int .u64 ((pNum s (pNum s st).2).1 : Nat)] (by simp [World.setCell]; rfl) rfl (hold_two _ _ _) (by simp [Value.oneCell']) (by unfold maxLen; omega) (by omega) (by rw [World.size_alloc]; omega) ?_; intro v' w15 hown' hgrow _; obtain ⟨g', cap', rfl⟩ := ownsRow_succ hown'; have J15 := (HJ14.out.below ((Below.refl _ _).alloc (Nat.le_refl _) _)).grown hgrow (row_ne HO14.out hbl) (row_ne HO14.out hkl) (fun q e => Nat.le_trans h0l (HO14.out.lt q e).1); have c9' := J15.at 9 (.slice a j cap) rfl; have f9' := J15.free 9)
      have J16 : JQ s b k 26 w0 #[.int .i64 n0, .int .u64 n1, .int .u64 n2, .int .i64 n3, .int .u64 n4, .int .u64 n5, .string (str x6), .string (str x7), .int .u64 n8, .slice (some ⟨g', 0, none⟩) (j + 1) cap', .slice none 0 0, .int .i64 0, .bool false, .int .u64 0, .string { data := #[] }, .int .u64 0, .int .u64 0] _ (w15.setCell ⟨k, 9, none⟩ (.slice (some ⟨g', 0, none⟩) (j + 1) cap')) := J15.set 9 _
      go_roundw
      case rel =>
        refine ⟨j + 1, .slice (some ⟨g', 0, none⟩) (j + 1) cap', by go_num, by omega, ?_, ?_, ?_⟩
        · rw [HM.out]
          simp only [HM3.out]
          exact J16
        · rw [HM.out]
          simp only [rgVals_snoc, HM2.out]
          exact hown'.kept (grown_set _ _ _ _) (.inr (row_ne hown' hkl))
        · have := hgrow.size
          rw [World.size_alloc] at this
          simp only [World.setCell, Array.size_modify]
          simp only [World.setCell, Array.size_modify] at this hs14
          omega
      case measure => simp [intOf]; omega
    · obtain rfl : j = nu := by omega
      rw [M9.out] at J ho
      simp only at J ho
      have HU := hid (Cells.of_row ho [b, k, w.heap.size] (by intro q hq; simp at hq; omega))
      have HJ20 := hid J
      clear J ho
      go_wp2_with fail
      refine Calls.mono (jqCount (m := 16) (by decide) hs E10.out HJ20.out) ?_
      rintro e w20 ⟨rfl, J20, ho20⟩
      have HU20 := hid (HU.out.kept2D (Kept2.only (k := k) ho20) (by simp))
      have HJ21 : Hid (JQ s b k 26 w20 #[.int .i64 n0, .int .u64 n1, .int .u64 n2, .int .i64 n3, .int .u64 n4, .int .u64 n5, .string (str x6), .string (str x7), .int .u64 n8, .slice a j cap, .slice none 0 0, .int .i64 0, .bool false, .int .u64 0, .string { data := #[] }, .int .u64 0, .int .u64 0] st12 w20) := ⟨J20.1, J20.2.1, .refl _ _ _, J20.2.2.2⟩
      have HK20 := hid J20.2.2.1
      have hbl20 : b < w20.heap.size := J20.1.lt
      have hkl20 : k < w20.heap.size := J20.lt
      have hnf : nf ≤ 16 := by have := pCount_le 16 s st11; rw [E10.out] at this; exact this
      have hsz20 := Nat.le_trans hsz ho20.size
      clear HJ20 HU J20 ho20
      obtain ⟨i1, hi1, hy0, hy1, hy2⟩ := info_parts infoFlags
      go_wp2_with fail
      go_loopw [9] (fun i wr => ∃ (q : Nat) (v : Value), i = .int .i64 q ∧ q ≤ nf ∧ JQ s b k 26 w20 #[.int .i64 n0, .int .u64 n1, .int .u64 n2, .int .i64 n3, .int .u64 n4, .int .u64 n5, .string (str x6), .string (str x7), .int .u64 n8, .slice a j cap, v, .int .i64 0, .bool false, .int .u64 0, .string { data := #[] }, .int .u64 0, .int .u64 0] (many (pText 32 s) q st12).2 wr ∧ wr.ownsRow w20.heap.size 9 1 v q (strVals (many (pText 32 s) q st12).1)) (fun i _ => nf - (intOf i).toNat)
      case atStart => exact ⟨0, _, rfl, Nat.zero_le _, HJ21.out, World.ownsRow_nil _ _ _ _⟩
      case round =>
        obtain ⟨q, v, rfl, hq, J, ho⟩ := hrel
        obtain ⟨a2, cap2, rfl⟩ := (Cells.of_row ho [b, k] (by intro z hz; simp at hz; omega)).form
        by_cases hlt2 : q < nf
        · have HM := hid (show many (pText 32 s) (q + 1) st12 = ((many (pText 32 s) q st12).1 ++ [(pText 32 s (many (pText 32 s) q st12).2).1], (pText 32 s (many (pText 32 s) q st12).2).2) from rfl)
          generalize hst : many (pText 32 s) q st12 = p at *
          obtain ⟨l, st⟩ := p
          simp only at ho J HM
          clear hst
          go_wp2_with fail
          have hX0 : JQ s b k 26 w20 #[.int .i64 n0, .int .u64 n1, .int .u64 n2, .int .i64 n3, .int .u64 n4, .int .u64 n5, .string (str x6), .string (str x7), .int .u64 n8, .slice a j cap, .slice a2 q cap2, .int .i64 0, .bool false, .int .u64 0, .string { data := #[] }, .int .u64 0, .int .u64 0] st wr.drew ∧ wr.drew.ownsRow w20.heap.size 9 1 (.slice a2 q cap2) q (strVals l) := ⟨J, ho⟩
          clear J ho
          refine wp_region_held_drew (S := fun _ => True) (by kernel_rfl) trivial (fun hHeld => ?_)
          refine wpAnyH_takeD (i := 0) (d := 70) (v := .pointer (some ⟨k, 10, none⟩)) rfl rfl rfl (by kernel_rfl) (by kernel_rfl) (by kernel_rfl) (fun _ _ _ _ h => h) ?ha hHeld ?_
          case ha => intro w _; go_simp
          simp only [Act.put, List.setIfInBounds_toArray, List.set_cons_zero, List.set_cons_succ]
          refine wpAnyH_takeD (i := 2) (d := 72) (v := .pointer (some ⟨b, 0, none⟩)) rfl rfl rfl (by kernel_rfl) (by kernel_rfl) (by kernel_rfl) (fun _ _ _ _ h => h) ?ha2 hHeld ?_
          case ha2 => intro w _; go_simp
          simp only [Act.put, List.setIfInBounds_toArray, List.set_cons_zero, List.set_cons_succ]
          refine Pend.start (al := 1) (d := 71) (v := .slice a2 q cap2) (X := fun W => JQ s b k 26 w20 #[.int .i64 n0, .int .u64 n1, .int .u64 n2, .int .i64 n3, .int .u64 n4, .int .u64 n5, .string (str x6), .string (str x7), .int .u64 n8, .slice a j cap, .slice a2 q cap2, .int .i64 0, .bool false, .int .u64 0, .string { data := #[] }, .int .u64 0, .int .u64 0] st W ∧ W.ownsRow w20.heap.size 9 1 (.slice a2 q cap2) q (strVals l)) ?_ hX0
          refine Pend.step (ci := 3) (dc := 73) (rs := [1, 3]) (X' := fun u W => u = .string (str (pText 32 s st).1) ∧ JQ s b k 26 w20 #[.int .i64 n0, .int .u64 n1, .int .u64 n2, .int .i64 n3, .int .u64 n4, .int .u64 n5, .string (str x6), .string (str x7), .int .u64 n8, .slice a j cap, .slice a2 q cap2, .int .i64 0, .bool false, .int .u64 0, .string { data := #[] }, .int .u64 0, .int .u64 0] (pText 32 s st).2 W ∧ W.ownsRow w20.heap.size 9 1 (.slice a2 q cap2) q (strVals l)) rfl rfl rfl (fun _ => trivial) rfl rfl rfl (by kernel_rfl) (by kernel_rfl) (by kernel_rfl) (by kernel_rfl) (by kernel_rfl) (by kernel_rfl) (by kernel_rfl) (fun _ _ _ _ h => h) ?r1 ?w1 ?_
          case r1 =>
            intro W hX
            have c10 : W.cell? ⟨k, 10, none⟩ = some (.slice a2 q cap2) := hX.1.at 10 _ rfl
            go_simp
          case w1 =>
            intro W K hX hK
            simp only [Act.put, List.setIfInBounds_toArray, List.set_cons_zero, List.set_cons_succ] at hK
            go_simp
            refine Calls.mono (jqText (m := 32) (by decide) hs (x := (pText 32 s st).1) (st' := (pText 32 s st).2) rfl hX.1) ?_
            rintro e W' ⟨rfl, hJ', hO'⟩
            exact hK _ _ ⟨rfl, hJ', hX.2.kept hO' (.inr (row_ne hX.2 hbl20))⟩
          intro u1
          simp only [Act.put, List.setIfInBounds_toArray, List.set_cons_zero, List.set_cons_succ]
          refine Pend.step (ci := 4) (dc := 74) (rs := [1, 4]) (X' := fun u W => ∃ g, u = .slice (some ⟨g, 0, none⟩) 1 1 ∧ W.heap[g]? = some (.cells #[.string (str (pText 32 s st).1)] 9) ∧ JQ s b k 26 w20 #[.int .i64 n0, .int .u64 n1, .int .u64 n2, .int .i64 n3, .int .u64 n4, .int .u64 n5, .string (str x6), .string (str x7), .int .u64 n8, .slice a j cap, .slice a2 q cap2, .int .i64 0, .bool false, .int .u64 0, .string { data := #[] }, .int .u64 0, .int .u64 0] (pText 32 s st).2 W ∧ W.ownsRow w20.heap.size 9 1 (.slice a2 q cap2) q (strVals l)) rfl rfl rfl (fun _ => trivial) rfl rfl rfl (by kernel_rfl) (by kernel_rfl) (by kernel_rfl) (by kernel_rfl) (by kernel_rfl) (by kernel_rfl) (by kernel_rfl) (fun _ _ _ _ h => h) ?r2 ?w2 ?_
          case r2 =>
            intro W hX
            have c10 : W.cell? ⟨k, 10, none⟩ = some (.slice a2 q cap2) := hX.2.1.at 10 _ rfl
            go_simp
          case w2 =>
            intro W K hX hK
            obtain ⟨rfl, hJ, hO⟩ := hX
            simp only [Act.put, List.setIfInBounds_toArray, List.set_cons_zero, List.set_cons_succ] at hK
            go_simp
            exact hK _ _ ⟨_, rfl, heap_alloc_new _ _, hJ.below ((Below.refl _ _).alloc (Nat.le_refl _) _), hO.alloc _⟩
          intro u2
          simp only [Act.put, List.setIfInBounds_toArray, List.set_cons_zero, List.set_cons_succ]
          refine Pend.base rfl rfl rfl (fun _ => trivial) (by kernel_rfl) ?r3 ?_
          case r3 =>
            intro W hX
            obtain ⟨g, rfl, hg, hJ, hO⟩ := hX
            have c10 : W.cell? ⟨k, 10, none⟩ = some (.slice a2 q cap2) := hJ.at 10 _ rfl
            go_simp
          intro W hX
          obtain ⟨g, rfl, hg, hJ, hO⟩ := hX
          simp only [Act.put, List.setIfInBounds_toArray, List.set_cons_zero, List.set_cons_succ]
          refine wpAnyH_one (i := 5) rfl rfl (by kernel_rfl) ?_
          have hnews : ∀ j u, [Value.string (str (pText 32 s st).1)][j]? = some u → W.cell? ((⟨g, 0, none⟩ : Addr).add j) = some u := by
            intro j u hu
            rw [show (⟨g, 0, none⟩ : Addr).add j = ⟨g, j, none⟩ from by unfold Addr.add; split <;> simp_all]
            exact cell_in hg j u (by simpa using hu)
          refine wp_append_own (w := W) _ _ 24 rfl w20.heap.size 9 i1 (.string { data := #[] }) 1 16 Try.underlying24 hi1 hy0 hy1 hy2 rfl (by decide) (.slice a2 q cap2) q (strVals l) rfl hO ⟨g, 0, none⟩ 1 1 [.string (str (pText 32 s st).1)] rfl rfl hnews (by simp [Value.oneCell']) (by unfold maxLen; omega) (by omega) hJ.2.2.1.2.2.2.1 ?_
          intro v' w25 hown' hgrow _
          obtain ⟨g', cap', rfl⟩ := ownsRow_succ hown'
          have J25 := hJ.grown hgrow (row_ne hO hbl20) (row_ne hO hkl20) (fun z e => (hO.lt z e).1)
          have c10' := J25.at 10 (.slice a2 q cap2) rfl
          have f10' := J25.free 10
          have J26 : JQ s b k 26 w20 #[.int .i64 n0, .int .u64 n1, .int .u64 n2, .int .i64 n3, .int .u64 n4, .int .u64 n5, .string (str x6), .string (str x7), .int .u64 n8, .slice a j cap, (.slice (some ⟨g', 0, none⟩) (q + 1) cap'), .int .i64 0, .bool false, .int .u64 0, .string { data := #[] }, .int .u64 0, .int .u64 0] _ (w25.setCell ⟨k, 10, none⟩ (.slice (some ⟨g', 0, none⟩) (q + 1) cap')) := J25.set 10 _
          clear hJ hO hg hnews J25 hgrow
          refine ⟨trivial, ?_⟩
          simp only [Act.put, List.setIfInBounds_toArray, List.set_cons_zero, List.set_cons_succ]
          refine wpAnyH_takeD (i := 6) (d := 76) (v := .pointer (some ⟨k, 10, none⟩)) rfl rfl rfl (by kernel_rfl) (by kernel_rfl) (by kernel_rfl) (fun _ _ _ _ h => h) ?ha6 trivial ?_
          case ha6 => intro w _; go_simp
          simp only [Act.put, List.setIfInBounds_toArray, List.set_cons_zero, List.set_cons_succ]
          refine wpAnyH_one (i := 7) rfl rfl (by kernel_rfl) ?_
          go_simp
          refine ⟨by kernel_rfl, ?_⟩
          have HJ26 := hid J26
          have HO26 := hid (hown'.kept (grown_set w25 k 10 (.slice (some ⟨g', 0, none⟩) (q + 1) cap')) (.inr (row_ne hown' hkl20)))
          clear J26 hown' c10' f10'
          go_wp2_with fail
          go_roundw
          case rel =>
            refine ⟨q + 1, .slice (some ⟨g', 0, none⟩) (q + 1) cap', by go_num, by omega, ?_, ?_⟩
            · rw [HM.out]
              exact HJ26.out
            · rw [HM.out]
              simp only [strVals_snoc]
              exact HO26.out
          case measure => simp [intOf]; omega
        · obtain rfl : q = nf := by omega
          rw [M10.out] at J ho
          simp only at J ho
          have HF := hid (Cells.of_row ho [b, k, w.heap.size] (by intro z hz; simp at hz; omega))
          have HU30 := hid (HU20.out.kept2D J.2.2.1 (by simp))
          have HJ30 : Hid (JQ s b k 26 w0 #[.int .i64 n0, .int .u64 n1, .int .u64 n2, .int .i64 n3, .int .u64 n4, .int .u64 n5, .string (str x6), .string (str x7), .int .u64 n8, .slice a j cap, .slice a2 q cap2, .int .i64 0, .bool false, .int .u64 0, .string { data := #[] }, .int .u64 0, .int .u64 0] st13 wr) := ⟨J.1, J.2.1, HK20.out.trans J.2.2.1, J.2.2.2⟩
          clear J ho HU20 HK20
          go_wp2_with fail
          have HF30 := HF
          clear HF
          refine Calls.mono (jqNumber hs E11.out HJ30.out) ?_
          rintro e v30 ⟨rfl, J1, ho1⟩
          have c1 := J1.at 11 (.int .i64 0) rfl
          have f1 := J1.free 11
          have HJ31 : Hid (JQ s b k 26 w0 #[.int .i64 n0, .int .u64 n1, .int .u64 n2, .int .i64 n3, .int .u64 n4, .int .u64 n5, .string (str x6), .string (str x7), .int .u64 n8, .slice a j cap, .slice a2 q cap2, .int .i64 n11, .bool false, .int .u64 0, .string { data := #[] }, .int .u64 0, .int .u64 0] st14 (v30.setCell ⟨k, 11, none⟩ (.int .i64 n11))) := J1.set 11 _
          have HU31 := hid ((HU30.out.kept2D (Kept2.only (k := k) ho1) (by simp)).kept2D ((Kept2.refl b k v30).set 11 (.int .i64 n11)) (by simp))
          have HF31 := hid ((HF30.out.kept2D (Kept2.only (k := k) ho1) (by simp)).kept2D ((Kept2.refl b k v30).set 11 (.int .i64 n11)) (by simp))
          clear J1 HJ30 ho1 HU30 HF30
          go_wp2_with (fail)
          generalize v30.setCell ⟨k, 11, none⟩ (.int .i64 n11) = w31 at *
          clear c1 f1
          refine Calls.mono (jqNum hs E12.out HJ31.out) ?_
          rintro e v31 ⟨rfl, J1, ho1⟩
          have c1 := J1.at 12 (.bool false) rfl
          have f1 := J1.free 12
          have HJ32 : Hid (JQ s b k 26 w0 #[.int .i64 n0, .int .u64 n1, .int .u64 n2, .int .i64 n3, .int .u64 n4, .int .u64 n5, .string (str x6), .string (str x7), .int .u64 n8, .slice a j cap, .slice a2 q cap2, .int .i64 n11, .bool ((n12 : Int) == 1), .int .u64 0, .string { data := #[] }, .int .u64 0, .int .u64 0] st15 (v31.setCell ⟨k, 12, none⟩ (.bool ((n12 : Int) == 1)))) := J1.set 12 _
          have HU32 := hid ((HU31.out.kept2D (Kept2.only (k := k) ho1) (by simp)).kept2D ((Kept2.refl b k v31).set 12 (.bool ((n12 : Int) == 1))) (by simp))
          have HF32 := hid ((HF31.out.kept2D (Kept2.only (k := k) ho1) (by simp)).kept2D ((Kept2.refl b k v31).set 12 (.bool ((n12 : Int) == 1))) (by simp))
          clear J1 HJ31 ho1 HU31 HF31
          go_wp2_with (fail)
          generalize v31.setCell ⟨k, 12, none⟩ (.bool ((n12 : Int) == 1)) = w32 at *
          clear c1 f1
          refine Calls.mono (jqNum hs E13.out HJ32.out) ?_
          rintro e v32 ⟨rfl, J1, ho1⟩
          have c1 := J1.at 13 (.int .u64 0) rfl
          have f1 := J1.free 13
          have HJ33 : Hid (JQ s b k 26 w0 #[.int .i64 n0, .int .u64 n1, .int .u64 n2, .int .i64 n3, .int .u64 n4, .int .u64 n5, .string (str x6), .string (str x7), .int .u64 n8, .slice a j cap, .slice a2 q cap2, .int .i64 n11, .bool ((n12 : Int) == 1), .int .u64 n13, .string { data := #[] }, .int .u64 0, .int .u64 0] st16 (v32.setCell ⟨k, 13, none⟩ (.int .u64 n13))) := J1.set 13 _
          have HU33 := hid ((HU32.out.kept2D (Kept2.only (k := k) ho1) (by simp)).kept2D ((Kept2.refl b k v32).set 13 (.int .u64 n13)) (by simp))
          have HF33 := hid ((HF32.out.kept2D (Kept2.only (k := k) ho1) (by simp)).kept2D ((Kept2.refl b k v32).set 13 (.int .u64 n13)) (by simp))
          clear J1 HJ32 ho1 HU32 HF32
          go_wp2_with (fail)
          generalize v32.setCell ⟨k, 13, none⟩ (.int .u64 n13) = w33 at *
          clear c1 f1
          refine Calls.mono (jqText (m := 32) (by decide) hs E14.out HJ33.out) ?_
          rintro e v33 ⟨rfl, J1, ho1⟩
          have c1 := J1.at 14 (.string { data := #[] }) rfl
          have f1 := J1.free 14
          have HJ34 : Hid (JQ s b k 26 w0 #[.int .i64 n0, .int .u64 n1, .int .u64 n2, .int .i64 n3, .int .u64 n4, .int .u64 n5, .string (str x6), .string (str x7), .int .u64 n8, .slice a j cap, .slice a2 q cap2, .int .i64 n11, .bool ((n12 : Int) == 1), .int .u64 n13, .string (str x14), .int .u64 0, .int .u64 0] st17 (v33.setCell ⟨k, 14, none⟩ (.string (str x14)))) := J1.set 14 _
          have HU34 := hid ((HU33.out.kept2D (Kept2.only (k := k) ho1) (by simp)).kept2D ((Kept2.refl b k v33).set 14 (.string (str x14))) (by simp))
          have HF34 := hid ((HF33.out.kept2D (Kept2.only (k := k) ho1) (by simp)).kept2D ((Kept2.refl b k v33).set 14 (.string (str x14))) (by simp))
          clear J1 HJ33 ho1 HU33 HF33
          go_wp2_with (fail)
          generalize v33.setCell ⟨k, 14, none⟩ (.string (str x14)) = w34 at *
          clear c1 f1
          refine Calls.mono (jqNum hs E15.out HJ34.out) ?_
          rintro e v34 ⟨rfl, J1, ho1⟩
          have c1 := J1.at 15 (.int .u64 0) rfl
          have f1 := J1.free 15
          have HJ35 : Hid (JQ s b k 26 w0 #[.int .i64 n0, .int .u64 n1, .int .u64 n2, .int .i64 n3, .int .u64 n4, .int .u64 n5, .string (str x6), .string (str x7), .int .u64 n8, .slice a j cap, .slice a2 q cap2, .int .i64 n11, .bool ((n12 : Int) == 1), .int .u64 n13, .string (str x14), .int .u64 n15, .int .u64 0] st18 (v34.setCell ⟨k, 15, none⟩ (.int .u64 n15))) := J1.set 15 _
          have HU35 := hid ((HU34.out.kept2D (Kept2.only (k := k) ho1) (by simp)).kept2D ((Kept2.refl b k v34).set 15 (.int .u64 n15)) (by simp))
          have HF35 := hid ((HF34.out.kept2D (Kept2.only (k := k) ho1) (by simp)).kept2D ((Kept2.refl b k v34).set 15 (.int .u64 n15)) (by simp))
          clear J1 HJ34 ho1 HU34 HF34
          go_wp2_with (fail)
          generalize v34.setCell ⟨k, 15, none⟩ (.int .u64 n15) = w35 at *
          clear c1 f1
          refine Calls.mono (jqNum hs E16.out HJ35.out) ?_
          rintro e v35 ⟨rfl, J1, ho1⟩
          have c1 := J1.at 16 (.int .u64 0) rfl
          have f1 := J1.free 16
          have HJ36 : Hid (JQ s b k 26 w0 #[.int .i64 n0, .int .u64 n1, .int .u64 n2, .int .i64 n3, .int .u64 n4, .int .u64 n5, .string (str x6), .string (str x7), .int .u64 n8, .slice a j cap, .slice a2 q cap2, .int .i64 n11, .bool ((n12 : Int) == 1), .int .u64 n13, .string (str x14), .int .u64 n15, .int .u64 n16] st19 (v35.setCell ⟨k, 16, none⟩ (.int .u64 n16))) := J1.set 16 _
          have HU36 := hid ((HU35.out.kept2D (Kept2.only (k := k) ho1) (by simp)).kept2D ((Kept2.refl b k v35).set 16 (.int .u64 n16)) (by simp))
          have HF36 := hid ((HF35.out.kept2D (Kept2.only (k := k) ho1) (by simp)).kept2D ((Kept2.refl b k v35).set 16 (.int .u64 n16)) (by simp))
          clear J1 HJ35 ho1 HU35 HF35
          go_wp2_with (refine wpList_load_row rfl 26 _ rfl k (by rfl) 26 #[.int .i64 n0, .int .u64 n1, .int .u64 n2, .int .i64 n3, .int .u64 n4, .int .u64 n5, .string (str x6), .string (str x7), .int .u64 n8, .slice a j cap, .slice a2 q cap2, .int .i64 n11, .bool ((n12 : Int) == 1), .int .u64 n13, .string (str x14), .int .u64 n15, .int .u64 n16] (0, 0) _ HJ36.out.blk Try.underlying26 rfl sizeReq ?_)
          generalize v35.setCell ⟨k, 16, none⟩ (.int .u64 n16) = w36 at *
          clear c1 f1
          have hlu : lu.length = j := by have := many_len (rdRange s) j st10; rw [M9.out] at this; exact this
          have hlf : lf.length = q := by have := many_len (pText 32 s) q st12; rw [M10.out] at this; exact this
          have hux : Cells [b, k, w.heap.size] w36 (.slice a j cap) x.uids.length (rgVals x.uids) := by rw [hx.out]; simp only; rw [hlu]; exact HU36.out
          have hfx : Cells [b, k, w.heap.size] w36 (.slice a2 q cap2) x.flags.length (strVals x.flags) := by rw [hx.out]; simp only; rw [hlf]; exact HF36.out
          have hcx : x.cells (.slice a j cap) (.slice a2 q cap2) = #[.int .i64 n0, .int .u64 n1, .int .u64 n2, .int .i64 n3, .int .u64 n4, .int .u64 n5, .string (str x6), .string (str x7), .int .u64 n8, .slice a j cap, .slice a2 q cap2, .int .i64 n11, .bool ((n12 : Int) == 1), .int .u64 n13, .string (str x14), .int .u64 n15, .int .u64 n16] := by rw [hx.out]; rfl
          have hul : x.uids.length ≤ 1152921504606846976 := by rw [hx.out]; simp only; omega
          have hfl : x.flags.length ≤ 1152921504606846976 := by rw [hx.out]; simp only; omega
          have hZ1 : reqZ.all (·.oneCell') = true := by simp [reqZ, Value.oneCell']
          have HW := hid (refWriteRq_any x _ _ w36 _ hux hfx hul hfl hxf.out hxl.out.1 hxl.out.2.1 hxl.out.2.2 hfit.out)
          have HUX := hid hux
          have HFX := hid hfx
          have HXC := hid hcx
          rw [hcx] at HW
          have HJ36b := hid (show w36.heap[k]? = some (.cells (x.cells (.slice a j cap) (.slice a2 q cap2)) 26) by rw [hcx]; exact HJ36.out.2.1)
          have HR36 := hid ((HJ36.out.2.2.1.2.2.2.2 w.heap.size (Array.getElem?_eq_some_iff.1 HR0.out).1 (by omega) (by omega)).trans HR0.out)
          have HB36 := hid (Kept2.to_below HB0.out HJ36.out.2.2.1 HB0.out.size (by omega) (by omega))
          clear hux hfx hcx hul hfl hlu hlf HU36 HF36 HJ36 HR0 HB0
          refine Calls.mono HW.out ?_
          rintro e w37 ⟨rfl, hb37⟩
          have HJ37 := hid ((hb37.block k (Array.getElem?_eq_some_iff.1 HJ36b.out).1).trans HJ36b.out)
          have HR37 := hid ((hb37.block w.heap.size (Array.getElem?_eq_some_iff.1 HR36.out).1).trans HR36.out)
          have HB37 := hid (HB36.out.trans (hb37.mono HB36.out.size))
          have HU37 := hid (HUX.out.below hb37)
          have HF37 := hid (HFX.out.below hb37)
          clear hb37 HJ36b HR36 HB36 HUX HFX HW
          cases hmr : mayRq x
          · have HO : Hid (rqRef s x = (Rq.zero, false)) := by
              show rqRef s x = _
              unfold rqRef
              rw [if_neg (fun h => by rw [hmr] at h; exact absurd h.1 (by simp))]
            go_wp2_with (refine wpList_store_row rfl 26 _ _ rfl w.heap.size reqZ (by rfl) (by rfl) 26 reqZ HR37.out sizeReq rfl hZ1 ?_)
            rw [HO.out]
            refine bodyPost_ret (results_cell_tmp (by rfl) _ _ w.heap.size 26 reqZ (0, 0) _ (.bool false) rfl rfl (setRow_heap _ _ _ _ _ _ HR37.out) Try.underlying26 rfl sizeReq) rfl ?_
            exact ⟨.slice none 0 0, .slice none 0 0, rfl, Cells.nil _ _, Cells.nil _ _, below_row HB37.out (Nat.le_refl _) _⟩
          · by_cases hbs : x.bytes = s
            · have HO : Hid (rqRef s x = (x, true)) := by
                show rqRef s x = _
                unfold rqRef
                rw [if_pos ⟨hmr, hbs⟩]
              have hX1 := x.cells_one a a2 j q cap cap2
              rw [show (rqWrite x).1 = s by unfold rqWrite; rw [if_pos hmr]; exact hbs]
              clear hbs
              go_wp2_with (first | (refine wpList_load_row rfl 26 _ rfl k (by rfl) 26 (x.cells (.slice a j cap) (.slice a2 q cap2)) (0, 0) _ HJ37.out Try.underlying26 rfl sizeReq ?_) | (refine wpList_store_row rfl 26 _ _ rfl w.heap.size (x.cells (.slice a j cap) (.slice a2 q cap2)) (by rfl) (by rfl) 26 reqZ HR37.out sizeReq rfl hX1 ?_))
              rw [HO.out]
              refine bodyPost_ret (results_cell_tmp (by rfl) _ _ w.heap.size 26 (x.cells (.slice a j cap) (.slice a2 q cap2)) (0, 0) _ (.bool true) rfl rfl (setRow_heap _ _ _ _ _ _ HR37.out) Try.underlying26 rfl sizeReq) rfl ?_
              exact ⟨.slice a j cap, .slice a2 q cap2, rfl, (HU37.out.rowD (by simp) _).sub (by simp), (HF37.out.rowD (by simp) _).sub (by simp), below_row HB37.out (Nat.le_refl _) _⟩
            · have HO : Hid (rqRef s x = (Rq.zero, false)) := by
                show rqRef s x = _
                unfold rqRef
                rw [if_neg (fun h => hbs h.2)]
              rw [show (rqWrite x).1 = x.bytes by unfold rqWrite; rw [if_pos hmr]]
              generalize x.bytes = z at *
              have hne1 : ((str z).toList == (str s).toList) = false := by
                rw [ByteArray.toList_eq, ByteArray.toList_eq]
                exact beq_eq_false_iff_ne.2 hbs
              clear hbs
              go_wp2_with (refine wpList_store_row rfl 26 _ _ rfl w.heap.size reqZ (by rfl) (by rfl) 26 reqZ HR37.out sizeReq rfl hZ1 ?_)
              rw [HO.out]
              refine bodyPost_ret (results_cell_tmp (by rfl) _ _ w.heap.size 26 reqZ (0, 0) _ (.bool false) rfl rfl (setRow_heap _ _ _ _ _ _ HR37.out) Try.underlying26 rfl sizeReq) rfl ?_
              exact ⟨.slice none 0 0, .slice none 0 0, rfl, Cells.nil _ _, Cells.nil _ _, below_row HB37.out (Nat.le_refl _) _⟩
end Go.Proofs.Ytgkapgfpalbkjaa
