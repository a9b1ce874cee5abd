/-
  The walk of wire.ReadRequest.
-/
import Derived.Test.YtgkapgfpalbkjaaWJR
import Derived.Test.YtgkapgfpalbkjaaWMany
import Derived.Test.YtgkapgfpalbkjaaWMayRq
import Derived.Laws.Rows
namespace Go.Proofs.Ytgkapgfpalbkjaa
open Go.RowKit
set_option linter.unusedVariables false
set_option linter.unusedSimpArgs false

def reqZ : Array Value := #[.int .i64 0, .int .u64 0, .int .u64 0, .int .i64 0, .int .u64 0, .int .u64 0, .string { data := #[] }, .string { data := #[] }, .int .u64 0, .slice none 0 0, .slice none 0 0, .int .i64 0, .bool false, .int .u64 0, .string { data := #[] }, .int .u64 0, .int .u64 0]
theorem sizeReq : (Try.prog.info? 26).map (·.size) = some 17 := by kernel_rfl
theorem RS.row {W : World} {b k : Nat} {s : Bytes} {st : Nat × Nat} (h : RS W b s st) (hne : b ≠ k) (cs : Array Value) : RS (W.setRow k cs) b s st := by
  refine ⟨?_, h.2⟩
  have := h.1
  unfold RD at *
  rw [setRow_other W k b cs hne]
  exact this
/-- the store of the whole variable at the end of the chain -/
theorem wp_store_var {P : Program} {o : Oper} {a : Act} {W : World} {K : Act → World → Prop} {Q : Exit → Act → World → Prop} (ty : TypeId) (x y : Operand) (ho : o.op = .store ty x y) {s : Bytes} {b k : Nat} {w2 : World} {zs : Array Value} {t : TypeId} {st : Nat × Nat}
    (hX : XR s b w2 st W) (hY : YR b w2 zs t k W) (cells : Array Value) (hx : a.eval x = .pointer (some ⟨k, 0, none⟩)) (hy : a.eval y = .agg cells) (hi : (P.info? ty).map (·.size) = some cells.size) (hold : zs.size = cells.size) (h1 : cells.all (·.oneCell') = true)
    (h : ∀ w3, JR s b k t w3 cells st w3 → Only b w2 w3 → K (a.put o.dst undef) w3) : o.wp P a W K Q := by
  have hbk : b ≠ k := by have := hY.2.1; have := hY.2.2.1; omega
  refine wp_store_row ty x y ho k cells hx hy t zs hY.1 hi hold h1 (h _ ⟨hX.1.row hbk _, setRow_heap W k zs cells t _ hY.1, .refl _ _ _, hbk⟩ ?_)
  exact ⟨hX.2.os, hX.2.tape, hX.2.output, by have := hX.2.size; simpa [World.setRow] using this, fun j hj hb => (setRow_other W k j cells (by have := hY.2.1; omega)).trans (hX.2.block j hj hb)⟩
theorem Kept2.to_below {B b k : Nat} {w w3 W : World} (h : Below B w w3) (g : Kept2 b k w3 W) (hB : B ≤ w3.heap.size) (hb : B ≤ b) (hk : B ≤ k) : Below B w W :=
  ⟨g.1.trans h.os, g.2.1.trans h.tape, g.2.2.1.trans h.output, Nat.le_trans h.size g.2.2.2.1, fun j hj => (g.2.2.2.2 j (by omega) (by omega) (by omega)).trans (h.block j hj)⟩
theorem results_cell_tmp {P : Program} {fn : Func} {p q : Tmp} {ty : TypeId} (h : fn.results = #[.cell p ty, .tmp q]) (tmps : Array Value) (w : World) (g : Nat) (t : TypeId) (cs : Array Value) (fr : Nat × Nat) (d : TypeDesc) (v : Value)
    (hp : tmps.getD p undef = .pointer (some ⟨g, 0, none⟩)) (hq : tmps.getD q undef = v) (hg : w.heap[g]? = some (.cells cs t fr))
    (hu : P.underlying ty = some d) (hd : (match d with | .struct _ | .array _ _ => true | _ => false) = true) (hi : (P.info? ty).map (·.size) = some cs.size) :
    (results fn tmps).run P w = .ok (.tuple #[.agg cs, v]) w := by
  have hp' : tmps[p]?.getD undef = .pointer (some ⟨g, 0, none⟩) := by simpa using hp
  have hq' : tmps[q]?.getD undef = v := by simpa using hq
  simp [results, h, hp', hq', asAddr, run_loadVar_row w g t ty cs fr d hg hu hd hi]
theorem Rq.cells_one (x : Rq) (a1 a2 : Option Addr) (l1 l2 c1 c2 : Nat) : (x.cells (.slice a1 l1 c1) (.slice a2 l2 c2)).all (·.oneCell') = true := by simp [Rq.cells, Value.oneCell']
/-- what ReadRequest tells: the request that was read, and the reader's last state -/
def rqOut (s : Bytes) (x : Rq) (st : Nat × Nat) : Rq × Nat := if pEnd s st = 0 ∧ mayRq x = true then (x, 0) else (Rq.zero, 4)

set_option maxRecDepth 100000 in
set_option maxHeartbeats 3000000 in
theorem readRq_at (s : Bytes) (hs : s.length ≤ 1152921504606846976) (w : World) {n0 n1 n2 n3 n4 n5 n8 nu nf n11 n12 n13 n15 n16 : Nat} {x6 x7 x14 : Bytes} {lu : List (Nat × Nat)} {lf : List Bytes} {st1 st2 st3 st4 st5 st6 st7 st8 st9 st10 st11 st12 st13 st14 st15 st16 st17 st18 st19 : Nat × Nat}
    (E0 : Hid (pCount 10 s (0, 0) = (n0, st1))) (E1 : Hid (pNum s st1 = (n1, st2))) (E2 : Hid (pNum s st2 = (n2, st3))) (E3 : Hid (pCount 5 s st3 = (n3, st4))) (E4 : Hid (pNum s st4 = (n4, st5))) (E5 : Hid (pNum s st5 = (n5, st6))) (E6 : Hid (pText 64 s st6 = (x6, st7))) (E7 : Hid (pText 64 s st7 = (x7, st8))) (E8 : Hid (pNum s st8 = (n8, st9)))
    (E9 : Hid (pCount 64 s st9 = (nu, st10))) (M9 : Hid (many (rdRange s) nu st10 = (lu, st11))) (E10 : Hid (pCount 16 s st11 = (nf, st12))) (M10 : Hid (many (pText 32 s) nf st12 = (lf, st13)))
    (E11 : Hid (pCount 2 s st13 = (n11, st14))) (E12 : Hid (pCount 1 s st14 = (n12, st15))) (E13 : Hid (pNum s st15 = (n13, st16))) (E14 : Hid (pText 32 s st16 = (x14, st17))) (E15 : Hid (pNum s st17 = (n15, st18))) (E16 : Hid (pNum s st18 = (n16, st19)))
    (x : Rq) (hx : x = ⟨n0, n1, n2, n3, n4, n5, x6, x7, n8, lu, lf, n11, ((n12 : Int) == 1), n13, x14, n15, n16⟩) (hxf : Hid (∀ f ∈ x.flags, f.length ≤ maxLen)) :
    Calls Try.prog 12 #[.string (str s)] w fun e w' => ∃ vu vf, e = .returned (.tuple #[.agg ((rqOut s x st19).1.cells vu vf), .int .i64 ((rqOut s x st19).2 : Nat)]) ∧
      Cells [] w' vu (rqOut s x st19).1.uids.length (rgVals (rqOut s x st19).1.uids) ∧ Cells [] w' vf (rqOut s x st19).1.flags.length (strVals (rqOut s x st19).1.flags) ∧ Below w.heap.size w w' := by
  go_enter Try.func12, Try.ntmps12
  go_wp2_with fail
  refine (open_any s _).mono ?_
  rintro e w1 ⟨rfl, hr1, hb1⟩
  have hres := hid (hb1.block w.heap.size (by simp))
  have hsz : ∀ (W : World) (o : Obj), (W.alloc o).heap.size = W.heap.size + 1 := fun W o => by simp
  have hres0 := hid (heap_alloc_new w (.cells reqZ 26))
  rw [hsz] at hr1 hb1
  clear hsz
  go_wp2_with fail
  have hr2 : RS (w1.alloc (.cells #[.pointer (some ⟨w.heap.size + 1, 0, none⟩)] 70)) (w.heap.size + 1) s (0, 0) := RS.alloc ⟨hr1, Nat.zero_le _⟩ _
  have hc2 : (w1.alloc (.cells #[.pointer (some ⟨w.heap.size + 1, 0, none⟩)] 70)).cell? ⟨w1.heap.size, 0, none⟩ = some (.pointer (some ⟨w.heap.size + 1, 0, none⟩)) := World.cell?_alloc_mark _ _ _ _ _
  have hlt := hr1.lt
  have hne : w1.heap.size ≠ w.heap.size + 1 := by omega
  have hb : w.heap.size < w.heap.size + 1 := by omega
  have hc : w.heap.size < w1.heap.size := by omega
  have HB2 : Hid (Below w.heap.size w (w1.alloc (.cells #[.pointer (some ⟨w.heap.size + 1, 0, none⟩)] 70))) := ((((Below.refl _ _).alloc (Nat.le_refl _) _).trans (hb1.mono (by simp))).alloc (by omega) _)
  have HR2 : Hid ((w1.alloc (.cells #[.pointer (some ⟨w.heap.size + 1, 0, none⟩)] 70)).heap[w.heap.size]? = some (.cells reqZ 26)) := (heap_alloc_old _ _ (by omega)).trans (hres.out.trans hres0.out)
  clear hres hres0
  generalize w1.alloc (.cells #[.pointer (some ⟨w.heap.size + 1, 0, none⟩)] 70) = w2 at *
  generalize w1.heap.size = c at *
  generalize w.heap.size + 1 = b at *
  clear hr1 hb1 hlt
  have hX0 : XR s b w2 (0, 0) w2.drew := ⟨hr2, Only.of_below (Below.refl _ _).drew⟩
  have hSX : ∀ st W, XR s b w2 st W → W.cell? ⟨c, 0, none⟩ = some (.pointer (some ⟨b, 0, none⟩)) := fun st W h => h.2.cell hne hc2
  refine wp_region_held_drew (S := fun W => W.cell? ⟨c, 0, none⟩ = some (.pointer (some ⟨b, 0, none⟩))) (by kernel_rfl) (hSX _ _ hX0) (fun hHeld => ?_)

  refine wpAnyH_takeD (i := 0) (d := 8) (v := .pointer (some ⟨b, 0, none⟩)) rfl rfl rfl (by kernel_rfl) (by kernel_rfl) (by kernel_rfl) (fun _ _ _ _ h => h) ?_ hHeld ?_
  · intro w hSw; go_simp
  simp only [Act.put, List.setIfInBounds_toArray, List.set_cons_zero, List.set_cons_succ]

  refine wpAnyH_takeD (i := 2) (d := 10) (v := .pointer (some ⟨b, 0, none⟩)) rfl rfl rfl (by kernel_rfl) (by kernel_rfl) (by kernel_rfl) (fun _ _ _ _ h => h) ?_ hHeld ?_
  · intro w hSw; go_simp
  simp only [Act.put, List.setIfInBounds_toArray, List.set_cons_zero, List.set_cons_succ]

  refine wpAnyH_takeD (i := 4) (d := 12) (v := .pointer (some ⟨b, 0, none⟩)) rfl rfl rfl (by kernel_rfl) (by kernel_rfl) (by kernel_rfl) (fun _ _ _ _ h => h) ?_ hHeld ?_
  · intro w hSw; go_simp
  simp only [Act.put, List.setIfInBounds_toArray, List.set_cons_zero, List.set_cons_succ]

  refine wpAnyH_takeD (i := 6) (d := 14) (v := .pointer (some ⟨b, 0, none⟩)) rfl rfl rfl (by kernel_rfl) (by kernel_rfl) (by kernel_rfl) (fun _ _ _ _ h => h) ?_ hHeld ?_
  · intro w hSw; go_simp
  simp only [Act.put, List.setIfInBounds_toArray, List.set_cons_zero, List.set_cons_succ]

  refine wpAnyH_takeD (i := 8) (d := 16) (v := .pointer (some ⟨b, 0, none⟩)) rfl rfl rfl (by kernel_rfl) (by kernel_rfl) (by kernel_rfl) (fun _ _ _ _ h => h) ?_ hHeld ?_
  · intro w hSw; go_simp
  simp only [Act.put, List.setIfInBounds_toArray, List.set_cons_zero, List.set_cons_succ]

  refine wpAnyH_takeD (i := 10) (d := 18) (v := .pointer (some ⟨b, 0, none⟩)) rfl rfl rfl (by kernel_rfl) (by kernel_rfl) (by kernel_rfl) (fun _ _ _ _ h => h) ?_ hHeld ?_
  · intro w hSw; go_simp
  simp only [Act.put, List.setIfInBounds_toArray, List.set_cons_zero, List.set_cons_succ]

  refine wpAnyH_takeD (i := 12) (d := 20) (v := .pointer (some ⟨b, 0, none⟩)) rfl rfl rfl (by kernel_rfl) (by kernel_rfl) (by kernel_rfl) (fun _ _ _ _ h => h) ?_ hHeld ?_
  · intro w hSw; go_simp
  simp only [Act.put, List.setIfInBounds_toArray, List.set_cons_zero, List.set_cons_succ]

  refine wpAnyH_takeD (i := 14) (d := 22) (v := .pointer (some ⟨b, 0, none⟩)) rfl rfl rfl (by kernel_rfl) (by kernel_rfl) (by kernel_rfl) (fun _ _ _ _ h => h) ?_ hHeld ?_
  · intro w hSw; go_simp
  simp only [Act.put, List.setIfInBounds_toArray, List.set_cons_zero, List.set_cons_succ]

  refine wpAnyH_takeD (i := 16) (d := 24) (v := .pointer (some ⟨b, 0, none⟩)) rfl rfl rfl (by kernel_rfl) (by kernel_rfl) (by kernel_rfl) (fun _ _ _ _ h => h) ?_ hHeld ?_
  · intro w hSw; go_simp
  simp only [Act.put, List.setIfInBounds_toArray, List.set_cons_zero, List.set_cons_succ]

  refine Fork.start (al := 19) (d := 5) (X := XR s b w2 (0, 0)) (Y := YR b w2 reqZ 26) ?_ hX0
  have FL : ∀ {ops : Array Oper} {oa : Oper}, ops[19]? = some oa → oa.guard = none → oa.dst = some 5 → oa.op = .alloc 26 → Floats Try.prog ops (fun W => W.cell? ⟨c, 0, none⟩ = some (.pointer (some ⟨b, 0, none⟩))) 19 5 (XR s b w2) (YR b w2 reqZ 26) := by
    intro ops oa h1 h2 h3 h4
    refine ⟨oa, .cells reqZ 26, h1, h2, h3, ?_, hSX, ?_, ?_⟩
    · intro a W
      unfold execOp
      rw [h4]
      go_simp
      rfl
    · exact fun st W h => ⟨h.1.alloc _, h.2.trans (.of_below ((Below.refl _ _).alloc (Nat.le_refl _) _))⟩
    · exact fun st W h => ⟨heap_alloc_new W _, h.2.size, hr2.lt, by simp⟩

  refine Fork.step (ci := 1) (dc := 9) (rs := [1, 19]) (st' := st1) (v := .int .i64 n0) (FL rfl rfl rfl rfl) rfl rfl rfl (by kernel_rfl) (by kernel_rfl) (by kernel_rfl) (by kernel_rfl) (by kernel_rfl) (by kernel_rfl) (by kernel_rfl) (fun _ _ _ _ h => h) ?b0 ?_
  case b0 =>
    intro W K hX hK
    simp only [Act.put, List.setIfInBounds_toArray, List.set_cons_zero, List.set_cons_succ] at hK
    go_simp
    refine Calls.mono (xyCount (m := 10) (by decide) (zs := reqZ) (t := 26) hs E0.out _ hX) ?_
    rintro e W' ⟨rfl, hX', hY'⟩
    exact hK _ hX' hY'
  simp only [Act.put, List.setIfInBounds_toArray, List.set_cons_zero, List.set_cons_succ]

  refine Fork.step (ci := 3) (dc := 11) (rs := [3, 19]) (st' := st2) (v := .int .u64 n1) (FL rfl rfl rfl rfl) rfl rfl rfl (by kernel_rfl) (by kernel_rfl) (by kernel_rfl) (by kernel_rfl) (by kernel_rfl) (by kernel_rfl) (by kernel_rfl) (fun _ _ _ _ h => h) ?b1 ?_
  case b1 =>
    intro W K hX hK
    simp only [Act.put, List.setIfInBounds_toArray, List.set_cons_zero, List.set_cons_succ] at hK
    go_simp
    refine Calls.mono (xyNum (zs := reqZ) (t := 26) hs E1.out _ hX) ?_
    rintro e W' ⟨rfl, hX', hY'⟩
    exact hK _ hX' hY'
  simp only [Act.put, List.setIfInBounds_toArray, List.set_cons_zero, List.set_cons_succ]

  refine Fork.step (ci := 5) (dc := 13) (rs := [5, 19]) (st' := st3) (v := .int .u64 n2) (FL rfl rfl rfl rfl) rfl rfl rfl (by kernel_rfl) (by kernel_rfl) (by kernel_rfl) (by kernel_rfl) (by kernel_rfl) (by kernel_rfl) (by kernel_rfl) (fun _ _ _ _ h => h) ?b2 ?_
  case b2 =>
    intro W K hX hK
    simp only [Act.put, List.setIfInBounds_toArray, List.set_cons_zero, List.set_cons_succ] at hK
    go_simp
    refine Calls.mono (xyNum (zs := reqZ) (t := 26) hs E2.out _ hX) ?_
    rintro e W' ⟨rfl, hX', hY'⟩
    exact hK _ hX' hY'
  simp only [Act.put, List.setIfInBounds_toArray, List.set_cons_zero, List.set_cons_succ]

  refine Fork.step (ci := 7) (dc := 15) (rs := [7, 19]) (st' := st4) (v := .int .i64 n3) (FL rfl rfl rfl rfl) rfl rfl rfl (by kernel_rfl) (by kernel_rfl) (by kernel_rfl) (by kernel_rfl) (by kernel_rfl) (by kernel_rfl) (by kernel_rfl) (fun _ _ _ _ h => h) ?b3 ?_
  case b3 =>
    intro W K hX hK
    simp only [Act.put, List.setIfInBounds_toArray, List.set_cons_zero, List.set_cons_succ] at hK
    go_simp
    refine Calls.mono (xyCount (m := 5) (by decide) (zs := reqZ) (t := 26) hs E3.out _ hX) ?_
    rintro e W' ⟨rfl, hX', hY'⟩
    exact hK _ hX' hY'
  simp only [Act.put, List.setIfInBounds_toArray, List.set_cons_zero, List.set_cons_succ]

  refine Fork.step (ci := 9) (dc := 17) (rs := [9, 19]) (st' := st5) (v := .int .u64 n4) (FL rfl rfl rfl rfl) rfl rfl rfl (by kernel_rfl) (by kernel_rfl) (by kernel_rfl) (by kernel_rfl) (by kernel_rfl) (by kernel_rfl) (by kernel_rfl) (fun _ _ _ _ h => h) ?b4 ?_
  case b4 =>
    intro W K hX hK
    simp only [Act.put, List.setIfInBounds_toArray, List.set_cons_zero, List.set_cons_succ] at hK
    go_simp
    refine Calls.mono (xyNum (zs := reqZ) (t := 26) hs E4.out _ hX) ?_
    rintro e W' ⟨rfl, hX', hY'⟩
    exact hK _ hX' hY'
  simp only [Act.put, List.setIfInBounds_toArray, List.set_cons_zero, List.set_cons_succ]

  refine Fork.step (ci := 11) (dc := 19) (rs := [11, 19]) (st' := st6) (v := .int .u64 n5) (FL rfl rfl rfl rfl) rfl rfl rfl (by kernel_rfl) (by kernel_rfl) (by kernel_rfl) (by kernel_rfl) (by kernel_rfl) (by kernel_rfl) (by kernel_rfl) (fun _ _ _ _ h => h) ?b5 ?_
  case b5 =>
    intro W K hX hK
    simp only [Act.put, List.setIfInBounds_toArray, List.set_cons_zero, List.set_cons_succ] at hK
    go_simp
    refine Calls.mono (xyNum (zs := reqZ) (t := 26) hs E5.out _ hX) ?_
    rintro e W' ⟨rfl, hX', hY'⟩
    exact hK _ hX' hY'
  simp only [Act.put, List.setIfInBounds_toArray, List.set_cons_zero, List.set_cons_succ]

  refine Fork.step (ci := 13) (dc := 21) (rs := [13, 19]) (st' := st7) (v := .string (str x6)) (FL rfl rfl rfl rfl) rfl rfl rfl (by kernel_rfl) (by kernel_rfl) (by kernel_rfl) (by kernel_rfl) (by kernel_rfl) (by kernel_rfl) (by kernel_rfl) (fun _ _ _ _ h => h) ?b6 ?_
  case b6 =>
    intro W K hX hK
    simp only [Act.put, List.setIfInBounds_toArray, List.set_cons_zero, List.set_cons_succ] at hK
    go_simp
    refine Calls.mono (xyText (m := 64) (by decide) (zs := reqZ) (t := 26) hs E6.out _ hX) ?_
    rintro e W' ⟨rfl, hX', hY'⟩
    exact hK _ hX' hY'
  simp only [Act.put, List.setIfInBounds_toArray, List.set_cons_zero, List.set_cons_succ]

  refine Fork.step (ci := 15) (dc := 23) (rs := [15, 19]) (st' := st8) (v := .string (str x7)) (FL rfl rfl rfl rfl) rfl rfl rfl (by kernel_rfl) (by kernel_rfl) (by kernel_rfl) (by kernel_rfl) (by kernel_rfl) (by kernel_rfl) (by kernel_rfl) (fun _ _ _ _ h => h) ?b7 ?_
  case b7 =>
    intro W K hX hK
    simp only [Act.put, List.setIfInBounds_toArray, List.set_cons_zero, List.set_cons_succ] at hK
    go_simp
    refine Calls.mono (xyText (m := 64) (by decide) (zs := reqZ) (t := 26) hs E7.out _ hX) ?_
    rintro e W' ⟨rfl, hX', hY'⟩
    exact hK _ hX' hY'
  simp only [Act.put, List.setIfInBounds_toArray, List.set_cons_zero, List.set_cons_succ]

  refine Fork.step (ci := 17) (dc := 25) (rs := [17, 19]) (st' := st9) (v := .int .u64 n8) (FL rfl rfl rfl rfl) rfl rfl rfl (by kernel_rfl) (by kernel_rfl) (by kernel_rfl) (by kernel_rfl) (by kernel_rfl) (by kernel_rfl) (by kernel_rfl) (fun _ _ _ _ h => h) ?b8 ?_
  case b8 =>
    intro W K hX hK
    simp only [Act.put, List.setIfInBounds_toArray, List.set_cons_zero, List.set_cons_succ] at hK
    go_simp
    refine Calls.mono (xyNum (zs := reqZ) (t := 26) hs E8.out _ hX) ?_
    rintro e W' ⟨rfl, hX', hY'⟩
    exact hK _ hX' hY'
  simp only [Act.put, List.setIfInBounds_toArray, List.set_cons_zero, List.set_cons_succ]

  refine Fork.take (i := 18) (di := 26) (v := .agg #[.int .i64 n0, .int .u64 n1, .int .u64 n2, .int .i64 n3, .int .u64 n4, .int .u64 n5, .string (str x6), .string (str x7), .int .u64 n8, .slice none 0 0, .slice none 0 0, .int .i64 0, .bool false, .int .u64 0, .string { data := #[] }, .int .u64 0, .int .u64 0]) (fun W => hSX _ W) rfl rfl rfl (by kernel_rfl) (by kernel_rfl) (by kernel_rfl) (by kernel_rfl) (by kernel_rfl) (by kernel_rfl) (by kernel_rfl) (by kernel_rfl) (fun _ _ _ _ _ h => h) ?hb ?_
  case hb =>
    intro W _
    go_simp
  simp only [Act.put, List.setIfInBounds_toArray, List.set_cons_zero, List.set_cons_succ]
  refine Fork.base (FL rfl rfl rfl rfl) (by kernel_rfl) ?_
  intro W k hX hY
  simp only [Act.put, List.setIfInBounds_toArray, List.set_cons_zero, List.set_cons_succ]
  refine wpAnyH_one (i := 20) rfl rfl (by kernel_rfl) ?_
  refine wp_store_var 26 _ _ rfl hX hY _ rfl rfl sizeReq rfl (by simp [Value.oneCell']) ?_
  intro w3 J3 ho3
  have hc3 : w3.cell? ⟨c, 0, none⟩ = some (.pointer (some ⟨b, 0, none⟩)) := hSX st9 w3 ⟨J3.rs, ho3⟩
  refine ⟨hc3, wpAnyH_done (by kernel_rfl) ?_ _⟩
  have hck : c ≠ k := by have := hY.2.1; have := World.block_lt_of_cell? _ _ hc2; simp only at this; omega
  have hbk : b ≠ k := J3.2.2.2
  have hwk : w.heap.size < k := by have := hY.2.1; have := World.block_lt_of_cell? _ _ hc2; simp only at this; omega
  have HB3 : Hid (Below w.heap.size w w3) := HB2.out.trans ((ho3.below hr2.lt).mono (by omega))
  have HR3 : Hid (w3.heap[w.heap.size]? = some (.cells reqZ 26)) := (ho3.block _ (Array.getElem?_eq_some_iff.1 HR2.out).1 (fun e => by cases e; omega)).trans HR2.out
  clear hX hY hHeld hSX hX0 hc2 hr2 HB2 HR2 FL ho3
  have HJ3 := hid J3
  clear J3
  go_wp2_with fail
  refine Calls.mono (readRanges_any s hs 64 (by decide) st9 st10 nu E9 b c hne w3 HJ3.out.rs hc3) ?_
  rintro e w4 ⟨vu, rfl, hou, hr4, ho4⟩
  have J4 := HJ3.out.only ho4 hr4
  rw [M9.out] at J4 hou
  obtain ⟨au, cu, eu⟩ := (Cells.of_row hou [b, k, w.heap.size] (by intro j hj; have := HJ3.out.lt; have := HJ3.out.rs.lt; simp at hj; omega)).form
  subst eu
  have HU4 := hid (Cells.of_row hou [b, k, w.heap.size] (by intro j hj; have := HJ3.out.lt; have := HJ3.out.rs.lt; simp at hj; omega))
  have c4 : w4.cell? ⟨k, 9, none⟩ = some (.slice none 0 0) := J4.at 9 _ rfl
  have f4 := J4.free 9
  have J5 : JR s b k 26 w3 #[.int .i64 n0, .int .u64 n1, .int .u64 n2, .int .i64 n3, .int .u64 n4, .int .u64 n5, .string (str x6), .string (str x7), .int .u64 n8, .slice au nu cu, .slice none 0 0, .int .i64 0, .bool false, .int .u64 0, .string { data := #[] }, .int .u64 0, .int .u64 0] st11 (w4.setCell ⟨k, 9, none⟩ (.slice au nu cu)) := J4.set 9 _
  have HU5 := hid (HU4.out.kept2D ((Kept2.refl b k w4).set 9 (.slice au nu cu)) (by simp))
  have hc5 := J5.other hc3 hne hck
  have HJ5 := hid J5
  clear hr4 ho4 J4 hou HU4 J5
  go_wp2_with fail
  generalize w4.setCell ⟨k, 9, none⟩ (.slice au nu cu) = w5 at *
  refine Calls.mono (readFlags_any s hs 16 (by decide) st11 st12 nf E10 b c hne w5 HJ5.out.rs hc5) ?_
  rintro e w6 ⟨vf, rfl, hof, hr6, ho6⟩
  have J6 := HJ5.out.only ho6 hr6
  have HU6 := hid (HU5.out.kept2D (Kept2.only (k := k) ho6) (by simp))
  rw [M10.out] at J6 hof
  obtain ⟨af, cf, ef⟩ := (Cells.of_row hof [b, k, w.heap.size] (by intro j hj; have := HJ5.out.lt; have := HJ5.out.rs.lt; simp at hj; omega)).form
  subst ef
  have HF6 := hid (Cells.of_row hof [b, k, w.heap.size] (by intro j hj; have := HJ5.out.lt; have := HJ5.out.rs.lt; simp at hj; omega))
  have c6 : w6.cell? ⟨k, 10, none⟩ = some (.slice none 0 0) := J6.at 10 _ rfl
  have f6 := J6.free 10
  have J7 : JR s b k 26 w3 #[.int .i64 n0, .int .u64 n1, .int .u64 n2, .int .i64 n3, .int .u64 n4, .int .u64 n5, .string (str x6), .string (str x7), .int .u64 n8, .slice au nu cu, .slice af nf cf, .int .i64 0, .bool false, .int .u64 0, .string { data := #[] }, .int .u64 0, .int .u64 0] st13 (w6.setCell ⟨k, 10, none⟩ (.slice af nf cf)) := J6.set 10 _
  have HU7 := hid (HU6.out.kept2D ((Kept2.refl b k w6).set 10 (.slice af nf cf)) (by simp))
  have HF7 := hid (HF6.out.kept2D ((Kept2.refl b k w6).set 10 (.slice af nf cf)) (by simp))
  have hc7 := J7.other hc3 hne hck
  have HJ7 := hid J7
  clear hr6 ho6 J6 hof HU6 HF6 J7 hc5 HJ5 HU5 c4 f4
  go_wp2_with fail
  generalize w6.setCell ⟨k, 10, none⟩ (.slice af nf cf) = w7 at *
  clear c6 f6 hc3
  have HJ7d : Hid (JR s b k 26 w3 #[.int .i64 n0, .int .u64 n1, .int .u64 n2, .int .i64 n3, .int .u64 n4, .int .u64 n5, .string (str x6), .string (str x7), .int .u64 n8, .slice au nu cu, .slice af nf cf, .int .i64 0, .bool false, .int .u64 0, .string { data := #[] }, .int .u64 0, .int .u64 0] st13 w7.drew) := HJ7.out
  have hc7d : w7.drew.cell? ⟨c, 0, none⟩ = some (.pointer (some ⟨b, 0, none⟩)) := hc7
  have tok1 : True := trivial
  go_region_held3 (fun w' => w'.cell? ⟨c, 0, none⟩ = some (.pointer (some ⟨b, 0, none⟩))) (first | exact hc7d | assumption | exact keepSet (by assumption) hck)
    (first
    | (go_at_call 34; have _t := tok1; clear _t tok1; refine Calls.mono (jrCount (m := 2) (by decide) hs E11.out HJ7d.out) ?_; rintro e w8 ⟨rfl, J8, ho8⟩; have hc8 := ho8.cell hne hc7d; have HJ8 := hid J8; clear J8)
    | (go_at_call 34; refine Calls.mono (jrCount (m := 1) (by decide) hs E12.out HJ8.out) ?_; rintro e w9 ⟨rfl, J9, ho9⟩; have hc9 := ho9.cell hne hc8; have HJ9 := hid J9; clear J9)
    | (go_at_call 35; refine Calls.mono (jrNum hs E13.out HJ9.out) ?_; rintro e w10 ⟨rfl, J10, ho10⟩; have hc10 := ho10.cell hne hc9; have g11 := J10.at 11 (.int .i64 0) rfl; have g12 := J10.at 12 (.bool false) rfl; have g13 := J10.at 13 (.int .u64 0) rfl; have gf := J10.free; have HJ10 := hid J10; clear J10))
  have J11 := ((HJ10.out.set 11 (.int .i64 n11)).set 12 (.bool ((n12 : Int) == 1))).set 13 (.int .u64 n13)
  have HJ11 : Hid (JR s b k 26 w3 #[.int .i64 n0, .int .u64 n1, .int .u64 n2, .int .i64 n3, .int .u64 n4, .int .u64 n5, .string (str x6), .string (str x7), .int .u64 n8, .slice au nu cu, .slice af nf cf, .int .i64 n11, .bool ((n12 : Int) == 1), .int .u64 n13, .string { data := #[] }, .int .u64 0, .int .u64 0] st16 _) := J11
  have hk11 : Hid (Kept2 b k w7 _) := ((((((Kept2.refl b k w7).drew.trans (.only ho8)).trans (.only ho9)).trans (.only ho10)).set 11 (.int .i64 n11)).set 12 (.bool ((n12 : Int) == 1))).set 13 (.int .u64 n13)
  have hc11 := keepSet (o := 13) (v := .int .u64 n13) (keepSet (o := 12) (v := .bool ((n12 : Int) == 1)) (keepSet (o := 11) (v := .int .i64 n11) hc10 hck) hck) hck
  clear J11 HJ10 HJ9 HJ8 HJ7d HJ7 hc8 hc9 hc10 g11 g12 g13 gf ho8 ho9 ho10 hc7d hc7
  go_wp2_with fail
  generalize ((w10.setCell ⟨k, 11, none⟩ (.int .i64 n11)).setCell ⟨k, 12, none⟩ (.bool ((n12 : Int) == 1))).setCell ⟨k, 13, none⟩ (.int .u64 n13) = w11 at *
  have HU11 := hid (HU7.out.kept2D hk11.out (by simp))
  have HF11 := hid (HF7.out.kept2D hk11.out (by simp))
  clear hk11 HU7 HF7
  have HJ11d : Hid (JR s b k 26 w3 #[.int .i64 n0, .int .u64 n1, .int .u64 n2, .int .i64 n3, .int .u64 n4, .int .u64 n5, .string (str x6), .string (str x7), .int .u64 n8, .slice au nu cu, .slice af nf cf, .int .i64 n11, .bool ((n12 : Int) == 1), .int .u64 n13, .string { data := #[] }, .int .u64 0, .int .u64 0] st16 w11.drew) := HJ11.out
  have hc11d : w11.drew.cell? ⟨c, 0, none⟩ = some (.pointer (some ⟨b, 0, none⟩)) := hc11
  have tok1 : True := trivial
  go_region_held3 (fun w' => w'.cell? ⟨c, 0, none⟩ = some (.pointer (some ⟨b, 0, none⟩))) (first | exact hc11d | assumption | exact keepSet (by assumption) hck)
    (first
    | (go_at_call 36; refine Calls.mono (jrText (m := 32) (by decide) hs E14.out HJ11d.out) ?_; rintro e w12 ⟨rfl, J12, ho12⟩; have hc12 := ho12.cell hne hc11d; have HJ12 := hid J12; clear J12)
    | (go_at_call 35; have _t := tok1; clear _t tok1; refine Calls.mono (jrNum hs E15.out HJ12.out) ?_; rintro e w13 ⟨rfl, J13, ho13⟩; have hc13 := ho13.cell hne hc12; have HJ13 := hid J13; clear J13)
    | (go_at_call 35; refine Calls.mono (jrNum hs E16.out HJ13.out) ?_; rintro e w14 ⟨rfl, J14, ho14⟩; have hc14 := ho14.cell hne hc13; have g14 := J14.at 14 (.string { data := #[] }) rfl; have g15 := J14.at 15 (.int .u64 0) rfl; have g16 := J14.at 16 (.int .u64 0) rfl; have gf := J14.free; have HJ14 := hid J14; clear J14))
  have J15 := ((HJ14.out.set 14 (.string (str x14))).set 15 (.int .u64 n15)).set 16 (.int .u64 n16)
  have HJ15 : Hid (JR s b k 26 w3 #[.int .i64 n0, .int .u64 n1, .int .u64 n2, .int .i64 n3, .int .u64 n4, .int .u64 n5, .string (str x6), .string (str x7), .int .u64 n8, .slice au nu cu, .slice af nf cf, .int .i64 n11, .bool ((n12 : Int) == 1), .int .u64 n13, .string (str x14), .int .u64 n15, .int .u64 n16] st19 _) := J15
  have hk15 : Hid (Kept2 b k w11 _) := ((((((Kept2.refl b k w11).drew.trans (.only ho12)).trans (.only ho13)).trans (.only ho14)).set 14 (.string (str x14))).set 15 (.int .u64 n15)).set 16 (.int .u64 n16)
  have hc15 := keepSet (o := 16) (v := .int .u64 n16) (keepSet (o := 15) (v := .int .u64 n15) (keepSet (o := 14) (v := .string (str x14)) hc14 hck) hck) hck
  clear J15 HJ14 HJ13 HJ12 HJ11d HJ11 hc12 hc13 hc14 g14 g15 g16 gf ho12 ho13 ho14 hc11d hc11
  go_wp2_with fail
  generalize ((w14.setCell ⟨k, 14, none⟩ (.string (str x14))).setCell ⟨k, 15, none⟩ (.int .u64 n15)).setCell ⟨k, 16, none⟩ (.int .u64 n16) = w15 at *
  have HU15 := hid (HU11.out.kept2D hk15.out (by simp))
  have HF15 := hid (HF11.out.kept2D hk15.out (by simp))
  clear hk15 HU11 HF11
  have hnu : nu = lu.length := by have := many_len (rdRange s) nu st10; rw [M9.out] at this; exact this.symm
  have hnf : nf = lf.length := by have := many_len (pText 32 s) nf st12; rw [M10.out] at this; exact this.symm
  have hul : lu.length ≤ 1152921504606846976 := by have := pCount_le 64 s st9; rw [E9.out] at this; simp only at this; omega
  have hfl : lf.length ≤ 1152921504606846976 := by have := pCount_le 16 s st11; rw [E10.out] at this; simp only at this; omega
  have hbl : x.box.length ≤ maxLen := by have := pText_le 64 s st6; rw [E6.out] at this; simp only at this; subst hx; unfold maxLen; simp only; omega
  have hdl : x.dest.length ≤ maxLen := by have := pText_le 64 s st7; rw [E7.out] at this; simp only at this; subst hx; unfold maxLen; simp only; omega
  have hhl : x.hash.length ≤ maxLen := by have := pText_le 32 s st16; rw [E14.out] at this; simp only at this; subst hx; unfold maxLen; simp only; omega
  subst hnu hnf
  have HU : Hid (Cells [b, k, w.heap.size] w15 (.slice au lu.length cu) x.uids.length (rgVals x.uids)) := by subst hx; exact HU15.out
  have HF : Hid (Cells [b, k, w.heap.size] w15 (.slice af lf.length cf) x.flags.length (strVals x.flags)) := by subst hx; exact HF15.out
  have HJ : Hid (JR s b k 26 w3 (x.cells (.slice au lu.length cu) (.slice af lf.length cf)) st19 w15) := by subst hx; exact HJ15.out
  have hul' : x.uids.length ≤ 1152921504606846976 := by subst hx; exact hul
  have hfl' : x.flags.length ≤ 1152921504606846976 := by subst hx; exact hfl
  clear HU15 HF15 HJ15 hx hul hfl
  refine Calls.mono (rsEnd HJ.out.rs) ?_
  rintro e w16 ⟨rfl, ho16⟩
  have HJ16 : Hid (w16.heap[k]? = some (.cells (x.cells (.slice au lu.length cu) (.slice af lf.length cf)) 26)) := (ho16.block k HJ.out.lt (fun e => hbk (by cases e; rfl))).trans HJ.out.blk
  have HU16 := hid (HU.out.kept2D (Kept2.only (k := k) ho16) (by simp))
  have HF16 := hid (HF.out.kept2D (Kept2.only (k := k) ho16) (by simp))
  have HK16 := hid (HJ.out.kept.trans (.only ho16))
  have HR16 : Hid (w16.heap[w.heap.size]? = some (.cells reqZ 26)) := (HK16.out.2.2.2.2 _ (Array.getElem?_eq_some_iff.1 HR3.out).1 (by omega) (by omega)).trans HR3.out
  have HB16 : Hid (Below w.heap.size w w16) := HK16.out.to_below HB3.out HB3.out.size (by omega) (by omega)
  clear HU HF HJ ho16 HB3 HR3 HK16 hc15
  have hZ1 : reqZ.all (·.oneCell') = true := by simp [reqZ, Value.oneCell']
  generalize hpe : pEnd s st19 = pe
  have HPE := hid hpe
  clear hpe
  by_cases hpe0 : pe = 0
  · subst hpe0
    have q0 : w16.cell? ⟨k, 0, none⟩ = some (.int .i64 x.op) := cell_in HJ16.out 0 _ rfl
    have q1 : w16.cell? ⟨k, 1, none⟩ = some (.int .u64 x.session) := cell_in HJ16.out 1 _ rfl
    have q2 : w16.cell? ⟨k, 2, none⟩ = some (.int .u64 x.number) := cell_in HJ16.out 2 _ rfl
    have q3 : w16.cell? ⟨k, 3, none⟩ = some (.int .i64 x.node) := cell_in HJ16.out 3 _ rfl
    have q4 : w16.cell? ⟨k, 4, none⟩ = some (.int .u64 x.life) := cell_in HJ16.out 4 _ rfl
    have q5 : w16.cell? ⟨k, 5, none⟩ = some (.int .u64 x.tried) := cell_in HJ16.out 5 _ rfl
    have q6 : w16.cell? ⟨k, 6, none⟩ = some (.string (str x.box)) := cell_in HJ16.out 6 _ rfl
    have q7 : w16.cell? ⟨k, 7, none⟩ = some (.string (str x.dest)) := cell_in HJ16.out 7 _ rfl
    have q8 : w16.cell? ⟨k, 8, none⟩ = some (.int .u64 x.validity) := cell_in HJ16.out 8 _ rfl
    have q9 : w16.cell? ⟨k, 9, none⟩ = some (.slice au lu.length cu) := cell_in HJ16.out 9 _ rfl
    have q10 : w16.cell? ⟨k, 10, none⟩ = some (.slice af lf.length cf) := cell_in HJ16.out 10 _ rfl
    have q11 : w16.cell? ⟨k, 11, none⟩ = some (.int .i64 x.how) := cell_in HJ16.out 11 _ rfl
    have q12 : w16.cell? ⟨k, 12, none⟩ = some (.bool x.has) := cell_in HJ16.out 12 _ rfl
    have q13 : w16.cell? ⟨k, 13, none⟩ = some (.int .u64 x.since) := cell_in HJ16.out 13 _ rfl
    have q14 : w16.cell? ⟨k, 14, none⟩ = some (.string (str x.hash)) := cell_in HJ16.out 14 _ rfl
    have q15 : w16.cell? ⟨k, 15, none⟩ = some (.int .u64 x.size) := cell_in HJ16.out 15 _ rfl
    have q16 : w16.cell? ⟨k, 16, none⟩ = some (.int .u64 x.sweeps) := cell_in HJ16.out 16 _ rfl
    go_wp2_with fail
    clear q0 q1 q2 q3 q4 q5 q6 q7 q8 q9 q10 q11 q12 q13 q14 q15 q16
    refine Calls.mono (mayRq_any x _ _ w16 [b, k, w.heap.size] HU16.out HF16.out hul' hfl' hxf.out hbl hdl hhl) ?_
    rintro e w17 ⟨rfl, hb17⟩
    have HJ17 := hid ((hb17.block k (Array.getElem?_eq_some_iff.1 HJ16.out).1).trans HJ16.out)
    have HR17 := hid ((hb17.block w.heap.size (Array.getElem?_eq_some_iff.1 HR16.out).1).trans HR16.out)
    have HB17 := hid (HB16.out.trans (hb17.mono HB16.out.size))
    have HU17 := hid (HU16.out.below hb17)
    have HF17 := hid (HF16.out.below hb17)
    clear hb17 HJ16 HR16 HB16 HU16 HF16
    cases hmr : mayRq x
    · have HO : Hid (rqOut s x st19 = (Rq.zero, 4)) := by
        show rqOut s x st19 = _
        unfold rqOut
        rw [if_neg (fun h => by rw [hmr] at h; exact absurd h.2 (by simp))]
      go_wp2_with (refine wpList_store_row rfl 26 _ _ rfl w.heap.size reqZ (by rfl) (by rfl) 26 reqZ HR17.out sizeReq rfl hZ1 ?_)
      rw [HO.out]
      refine bodyPost_ret (results_cell_tmp (by rfl) _ _ w.heap.size 26 reqZ (0, 0) _ (.int .i64 4) rfl rfl (setRow_heap _ _ _ _ _ _ HR17.out) Try.underlying26 rfl sizeReq) rfl ?_
      exact ⟨.slice none 0 0, .slice none 0 0, rfl, Cells.nil _ _, Cells.nil _ _, below_row HB17.out (Nat.le_refl _) _⟩
    · have HO : Hid (rqOut s x st19 = (x, 0)) := by
        show rqOut s x st19 = _
        unfold rqOut
        rw [if_pos ⟨HPE.out, hmr⟩]
      have hX1 := x.cells_one au af lu.length lf.length cu cf
      go_wp2_with (first | (refine wpList_load_row rfl 26 _ rfl k (by rfl) 26 (x.cells (.slice au lu.length cu) (.slice af lf.length cf)) (0, 0) _ HJ17.out Try.underlying26 rfl sizeReq ?_) | (refine wpList_store_row rfl 26 _ _ rfl w.heap.size (x.cells (.slice au lu.length cu) (.slice af lf.length cf)) (by rfl) (by rfl) 26 reqZ HR17.out sizeReq rfl hX1 ?_))
      rw [HO.out]
      refine bodyPost_ret (results_cell_tmp (by rfl) _ _ w.heap.size 26 (x.cells (.slice au lu.length cu) (.slice af lf.length cf)) (0, 0) _ (.int .i64 0) rfl rfl (setRow_heap _ _ _ _ _ _ HR17.out) Try.underlying26 rfl sizeReq) rfl ?_
      exact ⟨.slice au lu.length cu, .slice af lf.length cf, rfl, (HU17.out.rowD (by simp) _).sub (by simp), (HF17.out.rowD (by simp) _).sub (by simp), below_row HB17.out (Nat.le_refl _) _⟩
  · have hpe1 : ((pe : Int) == 0) = false := by simpa using hpe0
    have hpe2 : ((pe : Int) != 0) = true := by simpa using hpe0
    have HO : Hid (rqOut s x st19 = (Rq.zero, 4)) := by
      show rqOut s x st19 = _
      unfold rqOut
      rw [if_neg (fun h => hpe0 (HPE.out.symm.trans h.1))]
    go_wp2_with (refine wpList_store_row rfl 26 _ _ rfl w.heap.size reqZ (by rfl) (by rfl) 26 reqZ HR16.out sizeReq rfl hZ1 ?_)
    rw [HO.out]
    refine bodyPost_ret (results_cell_tmp (by rfl) _ _ w.heap.size 26 reqZ (0, 0) _ (.int .i64 4) rfl rfl (setRow_heap _ _ _ _ _ _ HR16.out) Try.underlying26 rfl sizeReq) rfl ?_
    exact ⟨.slice none 0 0, .slice none 0 0, rfl, Cells.nil _ _, Cells.nil _ _, below_row HB16.out (Nat.le_refl _) _⟩
end Go.Proofs.Ytgkapgfpalbkjaa
