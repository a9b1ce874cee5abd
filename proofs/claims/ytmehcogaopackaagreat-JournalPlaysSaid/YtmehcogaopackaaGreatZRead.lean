/-
  The walk of the reference's Read.
-/
import Derived.Deep.CutBlock
import Derived.Test.YtmehcogaopackaaGreatGN
import Derived.Test.YtmehcogaopackaaGreatZDisk4
namespace Go.Proofs.YtmehcogaopackaaGreat
open Go.RowKit
set_option linter.unusedVariables false
set_option linter.unusedSimpArgs false
/-- the state's block, and an entry's -/
def ReAt (k g : Nat) (kc ec : Array Value) (W : World) : Prop := W.heap[k]? = some (.cells kc 51) ∧ W.heap[g]? = some (.cells ec 116)
theorem ReAt.below {k g : Nat} {kc ec : Array Value} {W W' : World} (h : ReAt k g kc ec W) (hb : Below W.heap.size W W') : ReAt k g kc ec W' := ⟨blk_below h.1 hb, blk_below h.2 hb⟩
theorem step_of_mid {f : Bool} {s : Bytes} {S S' : Js} {z z' : Nat} {st' : Nat × Nat} (h : rdMid f s S z = some (S', z', st')) : rdStep f s (S, z) = if pEnd s st' = 0 then some (S', z') else none := by
  rw [rdStep_mid, h]
  rfl
theorem ok_of_mid {f : Bool} {s : Bytes} {S S' : Js} {z z' n : Nat} {st' : Nat × Nat} (h : rdMid f s S z = some (S', z', st')) (hok : RdOk S z n) (he : pEnd s st' = 0) : RdOk S' z' (n + 1) :=
  rdStep_ok (r := (S', z')) (by rw [step_of_mid h, if_pos he]) hok
theorem next_of_mid {f : Bool} {s : Bytes} {S S' : Js} {z z' q : Nat} {st' : Nat × Nat} {xs : List Bytes} {R : Option (Js × Nat)} (h : rdMid f s S z = some (S', z', st')) (hn : ∀ r, rdStep f s (S, z) = r → rdGo f (S, z) (xs.drop q) = r.bind fun P' => rdGo false P' (xs.drop (q + 1))) (hg : rdGo f (S, z) (xs.drop q) = R) (he : pEnd s st' = 0) : rdGo false (S', z') (xs.drop (q + 1)) = R := by
  rw [← hg, hn _ (step_of_mid h), if_pos he]
  rfl
theorem no_of_end {f : Bool} {s : Bytes} {S S' : Js} {z z' q : Nat} {st' : Nat × Nat} {xs : List Bytes} {R : Option (Js × Nat)} (h : rdMid f s S z = some (S', z', st')) (hn : ∀ r, rdStep f s (S, z) = r → rdGo f (S, z) (xs.drop q) = r.bind fun P' => rdGo false P' (xs.drop (q + 1))) (hg : rdGo f (S, z) (xs.drop q) = R) (he : ¬ pEnd s st' = 0) : R = none := by
  rw [← hg, hn _ (step_of_mid h), if_neg he]
  rfl
theorem no_of_mid {f : Bool} {s : Bytes} {S : Js} {z q : Nat} {xs : List Bytes} {R : Option (Js × Nat)} (h : rdMid f s S z = none) (hn : ∀ r, rdStep f s (S, z) = r → rdGo f (S, z) (xs.drop q) = r.bind fun P' => rdGo false P' (xs.drop (q + 1))) (hg : rdGo f (S, z) (xs.drop q) = R) : R = none := by
  rw [← hg, hn none (by rw [rdStep_mid, h]; rfl)]
  rfl
theorem rk_of {f : Bool} {s : Bytes} {S S' : Js} {z z' : Nat} {st' : Nat × Nat} {B k : Nat} {w : World} (_ : rdMid f s S z = some (S', z', st')) (h : RkAt B k S' w) : RkAt B k S' w := h
theorem Cells.src_take {D : List Nat} {w : World} {a : Option Addr} {c kk : Nat} {L : List En} (h : Cells D w (.slice a L.length c) L.length (enVals L)) (hk : kk ≤ L.length) :
    (∃ ad c', Value.slice a kk c = .slice (some ad) kk c' ∧ ∀ W', Below w.heap.size w W' → ∀ j u, (enVals (L.take kk))[j]? = some u → W'.cell? (ad.add j) = some u) ∨ (∃ c', Value.slice a kk c = .slice none 0 c' ∧ kk = 0 ∧ enVals (L.take kk) = []) := by
  rcases Cells.src (k := 3) h (by rw [enVals_len]; omega) (by omega) with ⟨ad, c', e, h1⟩ | ⟨c', e, h0, hx⟩
  · cases e
    refine .inl ⟨_, _, rfl, fun W' hb j u hj => h1 W' hb j u ?_⟩
    rw [← enVals_take, List.getElem?_take] at hj
    split at hj
    · exact hj
    · cases hj
  · simp only [Value.slice.injEq] at e
    obtain ⟨rfl, _, rfl⟩ := e
    have hk0 : kk = 0 := by omega
    subst hk0
    exact .inr ⟨_, rfl, rfl, rfl⟩
set_option maxRecDepth 100000 in
set_option maxHeartbeats 8000000 in
theorem rrd_any (xs : List Bytes) (v : Value) (W : World) (hv : Cells [] W v xs.length (strVals xs)) (hx : ∀ x ∈ xs, x.length ≤ 65536) (hn : xs.length ≤ 900000) :
    Calls Tryz.prog 96 #[v] W fun e W' => RrPost (rd xs) W e W' := by
  obtain ⟨av, cv, rfl⟩ := hv.form
  obtain ⟨hb0, hr0, hk0⟩ := two_boxes W 51 toldZ toldZ
  have HX := hid hv.at.2.2
  have HXL := hid hx
  have HB0 := hid hb0
  have HR0 := hid hr0
  have HK0 := hid hk0
  have HRD : Hid (∀ S, rd xs = some S ↔ xs ≠ [] ∧ ∃ z, rdGo true (Js.zero, 0) xs = some (S, z) ∧ S.image.length = z) := hid (fun S => rd_iff xs S)
  clear hv hb0 hr0 hk0 hx
  go_enter Tryz.func96, Tryz.ntmps96
  go_upto_region 2 with fail
  rw [show #[Value.int IntKind.u64 0, Value.int IntKind.i64 0, Value.int IntKind.u64 0, Value.int IntKind.u64 0, Value.int IntKind.u64 0, Value.slice none 0 0, Value.slice none 0 0, Value.string { data := #[] }] = toldZ from rfl]
  generalize (W.alloc (.cells toldZ 51)).alloc (.cells toldZ 51) = W0 at *
  have HKR : Hid (W.heap.size ≤ W.heap.size ∧ W.heap.size ≤ W.heap.size + 1 ∧ W.heap.size ≠ W.heap.size + 1) := hid (by omega)
  generalize hke : W.heap.size + 1 = k at HK0 HKR ⊢
  generalize hre : W.heap.size = r at HR0 ⊢
  have HKR2 : Hid (W.heap.size ≤ r ∧ W.heap.size ≤ k ∧ r ≠ k) := hid (by omega)
  clear hke hre HKR
  go_wp2_with fail
  go_loopw [5, 6] (fun z5 i wr => ∃ (q : Nat) (S : Js) (z : Nat), z5 = .int .u64 (z : Nat) ∧ i = .int .i64 q ∧ q ≤ xs.length ∧ wr.heap[r]? = some (.cells toldZ 51) ∧ Below W.heap.size W wr ∧
    Hid (if q = 0 then S = Js.zero ∧ z = 0 ∧ wr.heap[k]? = some (.cells toldZ 51) else RkAt W.heap.size k S wr) ∧ Hid (RdOk S z q) ∧ Hid (rdGo (decide (q = 0)) (S, z) (xs.drop q) = rdGo true (Js.zero, 0) xs)) (fun _ i _ => xs.length - (intOf i).toNat)
  case atStart => exact ⟨0, Js.zero, 0, rfl, rfl, Nat.zero_le _, HR0.out, HB0.out, hid (by rw [if_pos rfl]; exact ⟨rfl, rfl, HK0.out⟩), ⟨JsOk.zero, by omega, by decide, by decide⟩, rfl⟩
  case round =>
  obtain ⟨q, S, z, rfl, rfl, hq, hr1, hb1, HS, HOK, HG⟩ := hrel
  have HR1 := hid hr1
  have HB1 := hid hb1
  clear hr1 hb1
  have HRK : Hid (RkAt W.heap.size k S wr) := hid (by
    have h := HS.out
    by_cases h0 : q = 0
    · rw [if_pos h0] at h
      obtain ⟨rfl, rfl, h⟩ := h
      exact ⟨_, _, h, World.ownsRow_nil _ _ _ _, World.ownsRow_nil _ _ _ _⟩
    · rw [if_neg h0] at h
      exact h)
  by_cases hlt : q < xs.length
  · as_aux_lemma =>
    obtain ⟨ba, off, rfl, hcell⟩ := HX.out (by rw [strVals_len]; omega)
    have hxc := hcell wr HB1.out _ _ (strVals_at xs q hlt)
    have HN := hid (rdGo_next (f := decide (q = 0)) (P := (S, z)) hlt)
    have hxl := HXL.out xs[q] (List.getElem_mem hlt)
    clear hcell
    generalize xs[q] = x at *
    have hs : x.length ≤ 1152921504606846976 := by omega
    obtain ⟨n, st1, E⟩ := pair_of (pNum x (0, 0))
    have HE := hid E
    have HZL : Hid (k < wr.heap.size ∧ r < wr.heap.size) := hid (by
      obtain ⟨_, _, h, _, _⟩ := HRK.out
      exact ⟨(Array.getElem?_eq_some_iff.1 h).1, (Array.getElem?_eq_some_iff.1 HR1.out).1⟩)
    have HRR0 : Hid (RR (wr.alloc (.cells (rrCells x 0 0 0) 185)) wr.heap.size x (0, 0)) := hid ⟨0, heap_alloc_new wr _, Nat.zero_le _⟩
    have HB2 : Hid (Below W.heap.size W (wr.alloc (.cells (rrCells x 0 0 0) 185))) := hid (HB1.out.alloc HB1.out.size _)
    have HR2 : Hid ((wr.alloc (.cells (rrCells x 0 0 0) 185)).heap[r]? = some (.cells toldZ 51)) := hid (blk_alloc' HR1.out _)
    have HS2 : Hid (if q = 0 then S = Js.zero ∧ z = 0 ∧ (wr.alloc (.cells (rrCells x 0 0 0) 185)).heap[k]? = some (.cells toldZ 51) else RkAt W.heap.size k S (wr.alloc (.cells (rrCells x 0 0 0) 185))) := hid (by
      have h := HS.out
      by_cases h0 : q = 0
      · rw [if_pos h0] at h ⊢
        exact ⟨h.1, h.2.1, blk_alloc' h.2.2 _⟩
      · rw [if_neg h0] at h ⊢
        obtain ⟨vc, vl, h1, h2, h3⟩ := h
        exact ⟨vc, vl, blk_alloc' h1 _, h2.alloc _, h3.alloc _⟩)
    have HK2 : Hid (∃ cs, (wr.alloc (.cells (rrCells x 0 0 0) 185)).heap[k]? = some (.cells cs 51)) := hid (by
      obtain ⟨_, _, h, _, _⟩ := HRK.out
      exact ⟨_, blk_alloc' h _⟩)
    clear E
    go_upto_region 7 with fail
    generalize hwe : wr.alloc (.cells (rrCells x 0 0 0) 185) = w0 at HRR0 HB2 HR2 HS2 HK2
    rw [show wr.alloc (.cells #[.string (str x), .int .i64 0, .int .i64 0, .int .i64 0] 185) = w0 from hwe]
    generalize hbe : wr.heap.size = b at HRR0 ⊢
    have HBK : Hid (b ≠ k ∧ b ≠ r ∧ W.heap.size ≤ b) := hid (by have := HZL.out; have := HB1.out.size; omega)
    clear hwe hbe HZL HRK HS HR1 HB1 hxc
    go_upto_block 2 with (go_at_call 120; refine Calls.mono (rrNum HRR0.out hs) ?_; rintro e w1 ⟨rfl, HRR1, HO1⟩)
    rw [HE.out] at HRR1 ⊢
    have HRR1' := hid HRR1
    have HO1' := hid HO1
    clear HRR1 HO1
    have HRR1 := hid HRR1'.out
    have HO1 := hid HO1'.out
    clear HRR1' HO1'
    as_aux_lemma =>
      by_cases c1 : n = 1 ∧ q = 0
      · obtain ⟨rfl, rfl⟩ := c1
        as_aux_lemma =>
        have hk := (show S = Js.zero ∧ z = 0 ∧ w0.heap[k]? = some (.cells toldZ 51) by have h := HS2.out; rwa [if_pos rfl] at h)
        obtain ⟨rfl, rfl, hk⟩ := hk
        have hnl := pCount_le 5 x
        obtain ⟨n0, st2, E0⟩ := pair_of (pNum x st1)
        obtain ⟨n1, st3, E1⟩ := pair_of (pNum x st2)
        obtain ⟨nc, st4, E2⟩ := pair_of (pCount 5 x st3)
        obtain ⟨lc, st5, E3⟩ := pair_of (many (pCount 5 x) nc st4)
        obtain ⟨zz, st6, E4⟩ := pair_of (pNum x st5)
        have hnc : nc ≤ 5 := by have := hnl st3; rw [E2] at this; exact this
        have hlc : lc.length = nc := by have := many_len (pCount 5 x) nc st4; rw [E3] at this; exact this
        have HM : Hid (rdMid (decide (0 = 0)) x Js.zero 0 = if baseOk n0 lc zz = true then some (⟨⟨0, 0, 0⟩, ⟨n0, n1, natI lc, []⟩, []⟩, zz, st6) else none) := hid ((mid_yes HE.out ⟨⟨by omega, by omega⟩, by decide, by omega⟩).trans (kind1 E0 E1 E2 E3 E4))
        have J1 : JQ x b k 51 w0 toldZ st1 w1 := ⟨HRR1.out, only_other hk HBK.out.1 HO1.out, .only HO1.out, HBK.out.1⟩
        have HE0 := hid E0
        have HE1 := hid E1
        have HE2 := hid E2
        have HE3 := hid E3
        have HE4 := hid E4
        have HJ1 := hid J1
        have HFIN : Hid (∀ w' cs st, JQ x b k 51 w0 cs st w' → w'.heap[r]? = some (.cells toldZ 51) ∧ Below W.heap.size W w') := hid (fun w' cs st h => ⟨h.r HR2.out (Ne.symm HBK.out.2.1) HKR2.out.2.2, kept2_to_below HB2.out h.2.2.1 HB2.out.size HBK.out.2.2 HKR2.out.2.1⟩)
        have hkb : k < w0.heap.size := (Array.getElem?_eq_some_iff.1 hk).1
        have hbb : b < w0.heap.size := HRR0.out.lt
        obtain ⟨i1, hi1, hy0, hy1, hy2⟩ := info_parts infoConfs
        clear E0 E1 E2 E3 E4 J1 hk hnl HS2
        rw [show ((0 : Nat) : Int) = 0 from rfl, show ((1 : Nat) : Int) = 1 from rfl, show off + 0 = off from rfl]
        go_wp2_with fail
        refine Calls.mono (jqNum hs HE0.out HJ1.out) ?_
        rintro e w2 ⟨rfl, J2, _⟩
        dsimp only
        have f3 := J2.free 3
        have c3 := J2.at 3 (.int .u64 0) rfl
        have J3 : JQ x b k 51 w0 #[.int .u64 0, .int .i64 0, .int .u64 0, .int .u64 n0, .int .u64 0, .slice none 0 0, .slice none 0 0, .string { data := #[] }] st2 (w2.setCell ⟨k, 3, none⟩ (.int .u64 n0)) := J2.set 3 _
        have HJ3 := hid J3
        clear J2 J3
        go_wp2_with fail
        refine Calls.mono (jqNum hs HE1.out HJ3.out) ?_
        rintro e w4 ⟨rfl, J4, _⟩
        dsimp only
        clear f3 c3
        have f4 := J4.free 4
        have c4 := J4.at 4 (.int .u64 0) rfl
        have J5 : JQ x b k 51 w0 #[.int .u64 0, .int .i64 0, .int .u64 0, .int .u64 n0, .int .u64 n1, .slice none 0 0, .slice none 0 0, .string { data := #[] }] st3 (w4.setCell ⟨k, 4, none⟩ (.int .u64 n1)) := J4.set 4 _
        have HJ5 := hid J5
        clear J4 J5
        go_wp2_with fail
        refine Calls.mono (jqCount (m := 5) (by decide) hs HE2.out HJ5.out) ?_
        rintro e w6 ⟨rfl, J6, _⟩
        dsimp only
        clear f4 c4
        have HJ6 := hid J6
        clear J6
        go_wp2_with fail
        go_loopw [11] (fun i wr2 => ∃ (qq : Nat) (v : Value), i = .int .i64 qq ∧ qq ≤ nc ∧ JQ x b k 51 w0 #[.int .u64 0, .int .i64 0, .int .u64 0, .int .u64 n0, .int .u64 n1, v, .slice none 0 0, .string { data := #[] }] (many (pCount 5 x) qq st4).2 wr2 ∧ wr2.ownsRow w0.heap.size 3 1 v qq (intVals (natI (many (pCount 5 x) qq st4).1))) (fun i _ => nc - (intOf i).toNat)
        case atStart => exact ⟨0, _, rfl, Nat.zero_le _, HJ6.out, World.ownsRow_nil _ _ _ _⟩
        case round =>
        obtain ⟨qq, v, rfl, hqq, J, ho⟩ := hrel
        obtain ⟨a2, cap2, rfl⟩ := own_form ho
        by_cases hlt2 : qq < nc
        · have HMM := hid (show many (pCount 5 x) (qq + 1) st4 = ((many (pCount 5 x) qq st4).1 ++ [(pCount 5 x (many (pCount 5 x) qq st4).2).1], (pCount 5 x (many (pCount 5 x) qq st4).2).2) from rfl)
          generalize many (pCount 5 x) qq st4 = p at *
          obtain ⟨l, stl⟩ := p
          simp only at ho J HMM
          obtain ⟨m, stm, EE⟩ := pair_of (pCount 5 x stl)
          rw [EE] at HMM
          have HEE := hid EE
          have HJL := hid J
          have HOL := hid ho
          clear J ho EE
          go_wp2_with fail
          refine Calls.mono (jqCount (m := 5) (by decide) hs HEE.out HJL.out) ?_
          rintro e w7 ⟨rfl, J7, O7⟩
          dsimp only
          have o7 : w7.ownsRow w0.heap.size 3 1 (.slice a2 qq cap2) qq (intVals (natI l)) := HOL.out.kept O7 (.inr (row_ne HOL.out hbb))
          have c5 := J7.at 5 (.slice a2 qq cap2) rfl
          have hz7 := J7.2.2.1.2.2.2.1
          have HJ7 := hid (J7.below ((Below.refl w7.heap.size w7).alloc (Nat.le_refl _) (.cells #[.int .i64 (m : Int)] 3)))
          have o8 := o7.alloc (.cells #[.int .i64 (m : Int)] 3)
          have HN1 := hid (row_ne o8 hbb)
          have HN2 := hid (row_ne o8 hkb)
          have HN3 := hid (fun z e => (o8.lt z e).1)
          clear J7 O7 o7
          go_upto_region 17 with fail
          go_wp2_with (at_builtin; refine wpList_append_own _ rfl _ _ 46 rfl w0.heap.size 3 i1 (.int .i64 0) 1 8 Tryz.underlying46 hi1 hy0 hy1 hy2 rfl (by decide) _ _ _ rfl o8 ⟨w7.heap.size, 0, none⟩ 1 1 [.int .i64 (m : Int)] rfl rfl (cell_one_new _ _ _) (by simp [Value.oneCell']) (by unfold maxLen; omega) (by omega) (by simp; omega) ?_; intro v' w8 hown' hgrow _; obtain ⟨g', cap', rfl⟩ := ownsRow_succ hown'; have HJ8 := hid (HJ7.out.grown hgrow HN1.out HN2.out HN3.out); have HO8 := hid hown'; clear hown' hgrow o8; have c5' := HJ8.out.at 5 (.slice a2 qq cap2) rfl; have f5' := HJ8.out.free 5)
          have J9 : JQ x b k 51 w0 #[.int .u64 0, .int .i64 0, .int .u64 0, .int .u64 n0, .int .u64 n1, .slice (some ⟨g', 0, none⟩) (qq + 1) cap', .slice none 0 0, .string { data := #[] }] stm (w8.setCell ⟨k, 5, none⟩ (.slice (some ⟨g', 0, none⟩) (qq + 1) cap')) := HJ8.out.set 5 _
          have HJ9 := hid J9
          have HO9 := hid (HO8.out.kept (grown_set w8 k 5 (.slice (some ⟨g', 0, none⟩) (qq + 1) cap')) (.inr (row_ne HO8.out hkb)))
          clear J9
          go_roundw
          case rel =>
            refine ⟨qq + 1, .slice (some ⟨g', 0, none⟩) (qq + 1) cap', by go_num, by omega, ?_, ?_⟩
            · rw [HMM.out]
              exact HJ9.out
            · rw [HMM.out]
              have : natI (l ++ [m]) = natI l ++ [(m : Int)] := by simp [natI]
              simp only [this, intVals_snoc]
              exact HO9.out
          case measure => simp [intOf]; omega
        obtain rfl : qq = nc := by omega
        rw [HE3.out] at J ho
        simp only at J ho
        have hln : (natI lc).length = qq := by simp [natI, hlc]
        have HLN := hid hln
        have HJA := hid J
        have HOA := hid ho
        clear J ho hln hqq hlt2
        go_wp2_with fail
        refine Calls.mono (jqNum hs HE4.out HJA.out) ?_
        rintro e w10 ⟨rfl, J10, O10⟩
        dsimp only
        have HO10 : Hid (w10.ownsRow w0.heap.size 3 1 (.slice a2 qq cap2) qq (intVals (natI lc))) := hid (HOA.out.kept O10 (.inr (row_ne HOA.out hbb)))
        have d3 := J10.at 3 (.int .u64 n0) rfl
        have d5 := J10.at 5 (.slice a2 qq cap2) rfl
        have HJ10 := hid J10
        have HC : Hid (Cells [] w10 (.slice a2 qq cap2) (natI lc).length (intVals (natI lc))) := hid (by rw [HLN.out]; exact Cells.of_row (D := []) HO10.out (by simp))
        clear J10 O10
        go_wp2_with fail
        refine Calls.mono (rmembers_any (natI lc) _ [] _ HC.out (by have := HLN.out; omega)) ?_
        rintro e w11 ⟨rfl, hb11⟩
        dsimp only
        have HJ11 := hid (HJ10.out.below hb11)
        have HO11 := hid (ownsRow_of_block HO10.out fun r hr => hb11.block r (HO10.out.lt r hr).2)
        clear hb11 d3 d5
        have d3 := HJ11.out.at 3 (.int .u64 n0) rfl
        have HW11 := hid (HFIN.out _ _ _ HJ11.out)
        by_cases hm1 : members (natI lc) = true
        · rw [hm1]
          by_cases hm2 : n0 ≤ 4611686018427387904
          · have hmi : (n0 : Int) ≤ 4611686018427387904 := by omega
            by_cases hm3 : zz ≤ 262144
            · have hzi : (zz : Int) ≤ 262144 := by omega
              have HOKX := hid (HM.out.trans (if_pos (show baseOk n0 lc zz = true by unfold baseOk; simp [hm1, hm2, hm3])))
              clear hm1
              have HMX := hid (HOKX.out)
              have HRX := hid (HW11.out.1)
              have HBX := hid (HW11.out.2)
              have HRRX := hid (HJ11.out.1)
              have HRKX := hid (rk_of (B := W.heap.size) (k := k) HMX.out ⟨_, _, HJ11.out.2.1, ownsRow_mono (by rw [HLN.out]; exact HO11.out) HB2.out.size, World.ownsRow_nil _ _ _ _⟩)
              as_aux_lemma =>
              go_wp2_with fail
              refine Calls.mono (rrEnd HRRX.out) ?_
              rintro e wE ⟨rfl, hoE⟩
              have HRE := hid (only_other HRX.out HBK.out.2.1 hoE)
              have HRKE := hid (HRKX.out.only HRRX.out HBK.out.1 hoE)
              have HBE := hid (below_only HBX.out HBK.out.2.2 hoE HBX.out.size)
              clear hoE
              by_cases he : pEnd x st6 = 0
              · have HNX := hid (next_of_mid HMX.out HN.out HG.out he)
                have HOKE := hid (ok_of_mid HMX.out HOK.out he)
                rw [he]
                go_wp2_with fail
                go_roundw
                case rel => exact ⟨0 + 1, _, _, rfl, by go_num, by omega, HRE.out, HBE.out, hid (by rw [if_neg (by omega)]; exact HRKE.out), HOKE, hid (by rw [show decide (0 + 1 = 0) = false from decide_eq_false (by omega)]; exact HNX.out)⟩
                case measure => simp [intOf]; omega
              · have HNO := hid (no_of_end HMX.out HN.out HG.out he)
                have hei : ¬ ((pEnd x st6 : Int) = 0) := by omega
                go_upto_region 39 with fail
                as_aux_lemma =>
                go_wp2_with (refine wpList_store_row rfl 51 _ _ rfl r toldZ (by rfl) (by rfl) 51 _ (HRE.out) sizeTold rfl (by simp [toldZ, Value.oneCell']) ?_)
                exact ⟨rfl, _, results_cell2 rfl _ _ r _ _ (0, 0) _ _ rfl rfl (setRow_heap _ _ _ _ _ (0, 0) (HRE.out)) Tryz.underlying51 rfl sizeTold, RrPost.no (rd_no HNO.out) rfl (below_row (HBE.out) HKR2.out.1 _)⟩
            · have hzi : ¬ ((zz : Int) ≤ 262144) := by omega
              have HOKX := hid (HM.out.trans (if_neg (show ¬ baseOk n0 lc zz = true by unfold baseOk; simp [hm1, hm2, hm3])))
              clear hm1
              have HNO := hid (no_of_mid HOKX.out HN.out HG.out)
              go_upto_region 39 with fail
              as_aux_lemma =>
              go_wp2_with (refine wpList_store_row rfl 51 _ _ rfl r toldZ (by rfl) (by rfl) 51 _ (HW11.out.1) sizeTold rfl (by simp [toldZ, Value.oneCell']) ?_)
              exact ⟨rfl, _, results_cell2 rfl _ _ r _ _ (0, 0) _ _ rfl rfl (setRow_heap _ _ _ _ _ (0, 0) (HW11.out.1)) Tryz.underlying51 rfl sizeTold, RrPost.no (rd_no HNO.out) rfl (below_row (HW11.out.2) HKR2.out.1 _)⟩
          · have hmi : ¬ ((n0 : Int) ≤ 4611686018427387904) := by omega
            have HOKX := hid (HM.out.trans (if_neg (show ¬ baseOk n0 lc zz = true by unfold baseOk; simp [hm1, hm2])))
            clear hm1
            have HNO := hid (no_of_mid HOKX.out HN.out HG.out)
            go_upto_region 39 with fail
            as_aux_lemma =>
            go_wp2_with (refine wpList_store_row rfl 51 _ _ rfl r toldZ (by rfl) (by rfl) 51 _ (HW11.out.1) sizeTold rfl (by simp [toldZ, Value.oneCell']) ?_)
            exact ⟨rfl, _, results_cell2 rfl _ _ r _ _ (0, 0) _ _ rfl rfl (setRow_heap _ _ _ _ _ (0, 0) (HW11.out.1)) Tryz.underlying51 rfl sizeTold, RrPost.no (rd_no HNO.out) rfl (below_row (HW11.out.2) HKR2.out.1 _)⟩
        · have HOKX := hid (HM.out.trans (if_neg (show ¬ baseOk n0 lc zz = true by unfold baseOk; simp [hm1])))
          rw [Bool.not_eq_true] at hm1
          rw [hm1]
          clear hm1
          have HNO := hid (no_of_mid HOKX.out HN.out HG.out)
          go_upto_region 39 with fail
          as_aux_lemma =>
          go_wp2_with (refine wpList_store_row rfl 51 _ _ rfl r toldZ (by rfl) (by rfl) 51 _ (HW11.out.1) sizeTold rfl (by simp [toldZ, Value.oneCell']) ?_)
          exact ⟨rfl, _, results_cell2 rfl _ _ r _ _ (0, 0) _ _ rfl rfl (setRow_heap _ _ _ _ _ (0, 0) (HW11.out.1)) Tryz.underlying51 rfl sizeTold, RrPost.no (rd_no HNO.out) rfl (below_row (HW11.out.2) HKR2.out.1 _)⟩
      by_cases c2 : n = 2 ∧ 0 < q
      · obtain ⟨rfl, hq0⟩ := c2
        as_aux_lemma =>
        have hk := (show RkAt W.heap.size k S w0 by have h := HS2.out; rwa [if_neg (by omega)] at h)
        obtain ⟨vc, vl, hk, hvc, hvl⟩ := hk
        have hqi : (0 : Int) < (q : Int) := by omega
        have J1 : JQ x b k 51 w0 (toldCells S vc vl) st1 w1 := ⟨HRR1.out, only_other hk HBK.out.1 HO1.out, .only HO1.out, HBK.out.1⟩
        have HJ1 := hid J1
        obtain ⟨plx, hplx, _⟩ := HRR0.out
        have nb := own_ne hvc hplx (fun cur e => by cases e)
        have nk := own_ne hvc hk (fun cur e => by cases e)
        have mb := own_ne hvl hplx (fun cur e => by cases e)
        have mk := own_ne hvl hk (fun cur e => by cases e)
        have HROW : Hid (∀ w' cs st, JQ x b k 51 w0 cs st w' → w'.ownsRow W.heap.size 3 1 vc S.log.conf.length (intVals S.log.conf) ∧ w'.ownsRow W.heap.size 116 3 vl S.log.l.length (enVals S.log.l)) := hid (fun w' cs st h => ⟨row_kept2 hvc h.2.2.1 nb nk, row_kept2 hvl h.2.2.1 mb mk⟩)
        have HFIN : Hid (∀ w' cs st, JQ x b k 51 w0 cs st w' → w'.heap[r]? = some (.cells toldZ 51) ∧ Below W.heap.size W w') := hid (fun w' cs st h => ⟨h.r HR2.out (Ne.symm HBK.out.2.1) HKR2.out.2.2, kept2_to_below HB2.out h.2.2.1 HB2.out.size HBK.out.2.2 HKR2.out.2.1⟩)
        have him : S.image.length ≤ z ∧ z ≤ 262144 := by have h := HOK.out; exact ⟨h.2.2.1, h.2.1⟩
        have hzi : (str S.image).size = S.image.length := str_size _
        clear J1 hk hvc hvl plx hplx nb nk mb mk HS2

        obtain ⟨p, st2, E0⟩ := pair_of (pText 4096 x st1)
        have hpl : p.length ≤ 4096 := by have := pText_le 4096 x st1; rw [E0] at this; exact this
        have HM0 : Hid (rdMid (decide (q = 0)) x S z = if S.image.length < z ∧ p.length = min (z - S.image.length) 4096 then some (⟨S.hard, S.log, S.image ++ p⟩, z, st2) else none) := hid ((mid_yes HE.out ⟨⟨by omega, by omega⟩, by rw [decide_eq_false (by omega : ¬ q = 0)]; decide, .inl (by omega)⟩).trans (kind2 E0))
        have HM1 : Hid (S.image.length < z ∧ p.length = min (z - S.image.length) 4096 → rdMid (decide (q = 0)) x S z = some (⟨S.hard, S.log, S.image ++ p⟩, z, st2)) := hid (fun h => HM0.out.trans (if_pos h))
        have HM2 : Hid (¬ (S.image.length < z ∧ p.length = min (z - S.image.length) 4096) → rdMid (decide (q = 0)) x S z = none) := hid (fun h => HM0.out.trans (if_neg h))
        have HE0 := hid E0
        clear E0 HM0
        obtain ⟨lf, hlf⟩ : ∃ lf : Nat, lf = z - S.image.length := ⟨_, rfl⟩
        have hw1 : IntKind.u64.wrap (S.image.length : Int) = (S.image.length : Int) := by rw [IntKind.wrap_u64]; omega
        have hw2 : IntKind.u64.wrap ((z : Int) - (S.image.length : Int)) = (lf : Int) := by rw [IntKind.wrap_u64]; omega
        have hw3 : IntKind.u64.wrap (p.length : Int) = (p.length : Int) := by rw [IntKind.wrap_u64]; omega
        have hpz : (str p).size = p.length := str_size _
        have HLF := hid hlf
        obtain ⟨im, him2⟩ : ∃ im : Bytes, im = S.image ++ p := ⟨_, rfl⟩
        have hcat : str S.image ++ str p = str im := by rw [him2]; exact str_append _ _
        have HIM := hid him2
        have hsz : ¬ (9223372036854775807 < S.image.length + p.length) := by omega
        rw [← him2] at HM1
        clear hlf him2
        go_wp2_with fail
        refine Calls.mono (jqText (m := 4096) (by decide) hs HE0.out HJ1.out) ?_
        rintro e w2 ⟨rfl, J2, _⟩
        dsimp only
        have f7 := J2.free 7
        have c7 := J2.at 7 (.string (str S.image)) rfl
        have J3 : JQ x b k 51 w0 #[.int .u64 (S.hard.term : Nat), .int .i64 S.hard.vote, .int .u64 (S.hard.life : Nat), .int .u64 (S.log.base : Nat), .int .u64 (S.log.bterm : Nat), vc, vl, .string (str im)] st2 (w2.setCell ⟨k, 7, none⟩ (.string (str im))) := J2.set 7 _
        have HJ3 := hid J3
        have HW3 := hid (HFIN.out _ _ _ J3)
        have HX3 := hid (HROW.out _ _ _ J3)
        clear J2 J3
        by_cases h0 : lf = 0
        · have HCND : ¬ (S.image.length < z ∧ p.length = min (z - S.image.length) 4096) := by rintro ⟨h, _⟩; have := HLF.out; omega
          have HC := hid HCND
          have hl0 : ¬ ((0 : Int) < (lf : Int)) := by omega
          clear HCND h0

          have HNO := hid (no_of_mid (HM2.out HC.out) HN.out HG.out)
          go_upto_region 39 with fail
          as_aux_lemma =>
          go_wp2_with (refine wpList_store_row rfl 51 _ _ rfl r toldZ (by rfl) (by rfl) 51 _ (HW3.out.1) sizeTold rfl (by simp [toldZ, Value.oneCell']) ?_)
          exact ⟨rfl, _, results_cell2 rfl _ _ r _ _ (0, 0) _ _ rfl rfl (setRow_heap _ _ _ _ _ (0, 0) (HW3.out.1)) Tryz.underlying51 rfl sizeTold, RrPost.no (rd_no HNO.out) rfl (below_row (HW3.out.2) HKR2.out.1 _)⟩

        have hl0 : (0 : Int) < (lf : Int) := by omega
        by_cases h1 : p.length = lf
        · have HC : Hid (S.image.length < z ∧ p.length = min (z - S.image.length) 4096) := hid (by have := HLF.out; omega)
          have hq1 : ((p.length : Int) == (lf : Int)) = true := by rw [h1]; simp
          have hq3 : decide ((p.length : Int) = (lf : Int)) = true := decide_eq_true (by omega)
          clear h1 h0

          have HMX := hid ((HM1.out HC.out))
          have HRX := hid (HW3.out.1)
          have HBX := hid (HW3.out.2)
          have HRRX := hid (HJ3.out.1)
          have HRKX := hid (rk_of (B := W.heap.size) (k := k) HMX.out ⟨vc, vl, HJ3.out.2.1, HX3.out.1, HX3.out.2⟩)
          as_aux_lemma =>
          go_wp2_with fail
          refine Calls.mono (rrEnd HRRX.out) ?_
          rintro e wE ⟨rfl, hoE⟩
          have HRE := hid (only_other HRX.out HBK.out.2.1 hoE)
          have HRKE := hid (HRKX.out.only HRRX.out HBK.out.1 hoE)
          have HBE := hid (below_only HBX.out HBK.out.2.2 hoE HBX.out.size)
          clear hoE
          by_cases he : pEnd x st2 = 0
          · have HNX := hid (next_of_mid HMX.out HN.out HG.out he)
            have HOKE := hid (ok_of_mid HMX.out HOK.out he)
            rw [he]
            go_wp2_with fail
            go_roundw
            case rel => exact ⟨q + 1, _, _, rfl, by go_num, by omega, HRE.out, HBE.out, hid (by rw [if_neg (by omega)]; exact HRKE.out), HOKE, hid (by rw [show decide (q + 1 = 0) = false from decide_eq_false (by omega)]; exact HNX.out)⟩
            case measure => simp [intOf]; omega
          · have HNO := hid (no_of_end HMX.out HN.out HG.out he)
            have hei : ¬ ((pEnd x st2 : Int) = 0) := by omega
            go_upto_region 39 with fail
            as_aux_lemma =>
            go_wp2_with (refine wpList_store_row rfl 51 _ _ rfl r toldZ (by rfl) (by rfl) 51 _ (HRE.out) sizeTold rfl (by simp [toldZ, Value.oneCell']) ?_)
            exact ⟨rfl, _, results_cell2 rfl _ _ r _ _ (0, 0) _ _ rfl rfl (setRow_heap _ _ _ _ _ (0, 0) (HRE.out)) Tryz.underlying51 rfl sizeTold, RrPost.no (rd_no HNO.out) rfl (below_row (HBE.out) HKR2.out.1 _)⟩

        have hq1 : ((p.length : Int) == (lf : Int)) = false := by simp only [beq_eq_false_iff_ne, ne_eq]; omega
        have hq3 : decide ((p.length : Int) = (lf : Int)) = false := decide_eq_false (by omega)
        by_cases h2 : p.length = 4096
        · have hq4 : ((p.length : Int) == 4096) = true := by rw [h2]; rfl
          have hq5 : decide ((p.length : Int) = 4096) = true := decide_eq_true (by omega)
          by_cases h3 : 4096 < lf
          · have HC : Hid (S.image.length < z ∧ p.length = min (z - S.image.length) 4096) := hid (by have := HLF.out; omega)
            have hl4 : (4096 : Int) < (lf : Int) := by omega
            clear h1 h2 h0

            have HMX := hid ((HM1.out HC.out))
            have HRX := hid (HW3.out.1)
            have HBX := hid (HW3.out.2)
            have HRRX := hid (HJ3.out.1)
            have HRKX := hid (rk_of (B := W.heap.size) (k := k) HMX.out ⟨vc, vl, HJ3.out.2.1, HX3.out.1, HX3.out.2⟩)
            as_aux_lemma =>
            go_wp2_with fail
            refine Calls.mono (rrEnd HRRX.out) ?_
            rintro e wE ⟨rfl, hoE⟩
            have HRE := hid (only_other HRX.out HBK.out.2.1 hoE)
            have HRKE := hid (HRKX.out.only HRRX.out HBK.out.1 hoE)
            have HBE := hid (below_only HBX.out HBK.out.2.2 hoE HBX.out.size)
            clear hoE
            by_cases he : pEnd x st2 = 0
            · have HNX := hid (next_of_mid HMX.out HN.out HG.out he)
              have HOKE := hid (ok_of_mid HMX.out HOK.out he)
              rw [he]
              go_wp2_with fail
              go_roundw
              case rel => exact ⟨q + 1, _, _, rfl, by go_num, by omega, HRE.out, HBE.out, hid (by rw [if_neg (by omega)]; exact HRKE.out), HOKE, hid (by rw [show decide (q + 1 = 0) = false from decide_eq_false (by omega)]; exact HNX.out)⟩
              case measure => simp [intOf]; omega
            · have HNO := hid (no_of_end HMX.out HN.out HG.out he)
              have hei : ¬ ((pEnd x st2 : Int) = 0) := by omega
              go_upto_region 39 with fail
              as_aux_lemma =>
              go_wp2_with (refine wpList_store_row rfl 51 _ _ rfl r toldZ (by rfl) (by rfl) 51 _ (HRE.out) sizeTold rfl (by simp [toldZ, Value.oneCell']) ?_)
              exact ⟨rfl, _, results_cell2 rfl _ _ r _ _ (0, 0) _ _ rfl rfl (setRow_heap _ _ _ _ _ (0, 0) (HRE.out)) Tryz.underlying51 rfl sizeTold, RrPost.no (rd_no HNO.out) rfl (below_row (HBE.out) HKR2.out.1 _)⟩

          have HC : Hid (¬ (S.image.length < z ∧ p.length = min (z - S.image.length) 4096)) := hid (by have := HLF.out; omega)
          have hl4 : ¬ ((4096 : Int) < (lf : Int)) := by omega
          clear h1 h2 h0

          have HNO := hid (no_of_mid (HM2.out HC.out) HN.out HG.out)
          go_upto_region 39 with fail
          as_aux_lemma =>
          go_wp2_with (refine wpList_store_row rfl 51 _ _ rfl r toldZ (by rfl) (by rfl) 51 _ (HW3.out.1) sizeTold rfl (by simp [toldZ, Value.oneCell']) ?_)
          exact ⟨rfl, _, results_cell2 rfl _ _ r _ _ (0, 0) _ _ rfl rfl (setRow_heap _ _ _ _ _ (0, 0) (HW3.out.1)) Tryz.underlying51 rfl sizeTold, RrPost.no (rd_no HNO.out) rfl (below_row (HW3.out.2) HKR2.out.1 _)⟩

        have hq4 : ((p.length : Int) == 4096) = false := by simp only [beq_eq_false_iff_ne, ne_eq]; omega
        have hq5 : decide ((p.length : Int) = 4096) = false := decide_eq_false (by omega)
        have HC : Hid (¬ (S.image.length < z ∧ p.length = min (z - S.image.length) 4096)) := hid (by have := HLF.out; omega)
        clear h1 h2 h0

        have HNO := hid (no_of_mid (HM2.out HC.out) HN.out HG.out)
        go_upto_region 39 with fail
        as_aux_lemma =>
        go_wp2_with (refine wpList_store_row rfl 51 _ _ rfl r toldZ (by rfl) (by rfl) 51 _ (HW3.out.1) sizeTold rfl (by simp [toldZ, Value.oneCell']) ?_)
        exact ⟨rfl, _, results_cell2 rfl _ _ r _ _ (0, 0) _ _ rfl rfl (setRow_heap _ _ _ _ _ (0, 0) (HW3.out.1)) Tryz.underlying51 rfl sizeTold, RrPost.no (rd_no HNO.out) rfl (below_row (HW3.out.2) HKR2.out.1 _)⟩
      by_cases c3 : n = 3 ∧ 0 < q
      · obtain ⟨rfl, hq0⟩ := c3
        as_aux_lemma =>
        have hk := (show RkAt W.heap.size k S w0 by have h := HS2.out; rwa [if_neg (by omega)] at h)
        obtain ⟨vc, vl, hk, hvc, hvl⟩ := hk
        have hqi : (0 : Int) < (q : Int) := by omega
        have J1 : JQ x b k 51 w0 (toldCells S vc vl) st1 w1 := ⟨HRR1.out, only_other hk HBK.out.1 HO1.out, .only HO1.out, HBK.out.1⟩
        have HJ1 := hid J1
        obtain ⟨plx, hplx, _⟩ := HRR0.out
        have nb := own_ne hvc hplx (fun cur e => by cases e)
        have nk := own_ne hvc hk (fun cur e => by cases e)
        have mb := own_ne hvl hplx (fun cur e => by cases e)
        have mk := own_ne hvl hk (fun cur e => by cases e)
        have HROW : Hid (∀ w' cs st, JQ x b k 51 w0 cs st w' → w'.ownsRow W.heap.size 3 1 vc S.log.conf.length (intVals S.log.conf) ∧ w'.ownsRow W.heap.size 116 3 vl S.log.l.length (enVals S.log.l)) := hid (fun w' cs st h => ⟨row_kept2 hvc h.2.2.1 nb nk, row_kept2 hvl h.2.2.1 mb mk⟩)
        have HFIN : Hid (∀ w' cs st, JQ x b k 51 w0 cs st w' → w'.heap[r]? = some (.cells toldZ 51) ∧ Below W.heap.size W w') := hid (fun w' cs st h => ⟨h.r HR2.out (Ne.symm HBK.out.2.1) HKR2.out.2.2, kept2_to_below HB2.out h.2.2.1 HB2.out.size HBK.out.2.2 HKR2.out.2.1⟩)
        have him : S.image.length ≤ z ∧ z ≤ 262144 := by have h := HOK.out; exact ⟨h.2.2.1, h.2.1⟩
        have hzi : (str S.image).size = S.image.length := str_size _
        clear J1 hk hvc hvl plx hplx nb nk mb mk HS2

        obtain ⟨n0, st2, E0⟩ := pair_of (pNum x st1)
        obtain ⟨n1, st3, E1⟩ := pair_of (pCount 5 x st2)
        obtain ⟨n2, st4, E2⟩ := pair_of (pNum x st3)
        have HM1 : Hid (S.image.length = z → rdMid (decide (q = 0)) x S z = some (⟨⟨n0, n1, n2⟩, S.log, S.image⟩, z, st4)) := hid (fun h => (mid_yes HE.out ⟨⟨by omega, by omega⟩, by rw [decide_eq_false (by omega : ¬ q = 0)]; decide, .inr h⟩).trans (kind3 E0 E1 E2))
        have HM2 : Hid (S.image.length ≠ z → rdMid (decide (q = 0)) x S z = none) := hid (fun h => mid_no HE.out (by rintro ⟨_, _, h1⟩; rcases h1 with h1 | h1 <;> omega))
        have HE0 := hid E0
        have HE1 := hid E1
        have HE2 := hid E2
        have hw1 : IntKind.u64.wrap (S.image.length : Int) = (S.image.length : Int) := by rw [IntKind.wrap_u64]; omega
        clear E0 E1 E2
        go_wp2_with fail
        refine Calls.mono (jqNum hs HE0.out HJ1.out) ?_
        rintro e w2 ⟨rfl, J2, _⟩
        dsimp only
        have f0 := J2.free 0
        have c0 := J2.at 0 _ rfl
        have J3 : JQ x b k 51 w0 #[.int .u64 n0, .int .i64 S.hard.vote, .int .u64 (S.hard.life : Nat), .int .u64 (S.log.base : Nat), .int .u64 (S.log.bterm : Nat), vc, vl, .string (str S.image)] st2 (w2.setCell ⟨k, 0, none⟩ (.int .u64 n0)) := J2.set 0 _
        have HJ3 := hid J3
        clear J2 J3
        go_wp2_with fail
        refine Calls.mono (jqCount (m := 5) (by decide) hs HE1.out HJ3.out) ?_
        rintro e w4 ⟨rfl, J4, _⟩
        dsimp only
        clear f0 c0
        have f1 := J4.free 1
        have c1 := J4.at 1 _ rfl
        have J5 : JQ x b k 51 w0 #[.int .u64 n0, .int .i64 n1, .int .u64 (S.hard.life : Nat), .int .u64 (S.log.base : Nat), .int .u64 (S.log.bterm : Nat), vc, vl, .string (str S.image)] st3 (w4.setCell ⟨k, 1, none⟩ (.int .i64 n1)) := J4.set 1 _
        have HJ5 := hid J5
        clear J4 J5
        go_wp2_with fail
        refine Calls.mono (jqNum hs HE2.out HJ5.out) ?_
        rintro e w6 ⟨rfl, J6, _⟩
        dsimp only
        clear f1 c1
        have f2 := J6.free 2
        have c2 := J6.at 2 _ rfl
        have J7 : JQ x b k 51 w0 #[.int .u64 n0, .int .i64 n1, .int .u64 n2, .int .u64 (S.log.base : Nat), .int .u64 (S.log.bterm : Nat), vc, vl, .string (str S.image)] st4 (w6.setCell ⟨k, 2, none⟩ (.int .u64 n2)) := J6.set 2 _
        have c7 := J7.at 7 (.string (str S.image)) rfl
        have HJ7 := hid J7
        have HW7 := hid (HFIN.out _ _ _ J7)
        have HX7 := hid (HROW.out _ _ _ J7)
        clear J6 J7
        by_cases hz : S.image.length = z
        · have HOKX := hid (HM1.out hz)
          have hq1 : ((S.image.length : Int) == (z : Int)) = true := by rw [hz]; simp
          have hq2 : (S.image.length : Int) = (z : Int) := by omega
          have hq3 : decide ((S.image.length : Int) = (z : Int)) = true := decide_eq_true hq2
          clear hz hq2
          have HMX := hid (HOKX.out)
          have HRX := hid (HW7.out.1)
          have HBX := hid (HW7.out.2)
          have HRRX := hid (HJ7.out.1)
          have HRKX := hid (rk_of (B := W.heap.size) (k := k) HMX.out ⟨vc, vl, HJ7.out.2.1, HX7.out.1, HX7.out.2⟩)
          as_aux_lemma =>
          go_wp2_with fail
          refine Calls.mono (rrEnd HRRX.out) ?_
          rintro e wE ⟨rfl, hoE⟩
          have HRE := hid (only_other HRX.out HBK.out.2.1 hoE)
          have HRKE := hid (HRKX.out.only HRRX.out HBK.out.1 hoE)
          have HBE := hid (below_only HBX.out HBK.out.2.2 hoE HBX.out.size)
          clear hoE
          by_cases he : pEnd x st4 = 0
          · have HNX := hid (next_of_mid HMX.out HN.out HG.out he)
            have HOKE := hid (ok_of_mid HMX.out HOK.out he)
            rw [he]
            go_wp2_with fail
            go_roundw
            case rel => exact ⟨q + 1, _, _, rfl, by go_num, by omega, HRE.out, HBE.out, hid (by rw [if_neg (by omega)]; exact HRKE.out), HOKE, hid (by rw [show decide (q + 1 = 0) = false from decide_eq_false (by omega)]; exact HNX.out)⟩
            case measure => simp [intOf]; omega
          · have HNO := hid (no_of_end HMX.out HN.out HG.out he)
            have hei : ¬ ((pEnd x st4 : Int) = 0) := by omega
            go_upto_region 39 with fail
            as_aux_lemma =>
            go_wp2_with (refine wpList_store_row rfl 51 _ _ rfl r toldZ (by rfl) (by rfl) 51 _ (HRE.out) sizeTold rfl (by simp [toldZ, Value.oneCell']) ?_)
            exact ⟨rfl, _, results_cell2 rfl _ _ r _ _ (0, 0) _ _ rfl rfl (setRow_heap _ _ _ _ _ (0, 0) (HRE.out)) Tryz.underlying51 rfl sizeTold, RrPost.no (rd_no HNO.out) rfl (below_row (HBE.out) HKR2.out.1 _)⟩
        · have HOKX := hid (HM2.out hz)
          have hq1 : ((S.image.length : Int) == (z : Int)) = false := by simp only [beq_eq_false_iff_ne, ne_eq]; omega
          have hq3 : decide ((S.image.length : Int) = (z : Int)) = false := decide_eq_false (by omega)
          have HNO := hid (no_of_mid HOKX.out HN.out HG.out)
          go_upto_region 39 with fail
          as_aux_lemma =>
          go_wp2_with (refine wpList_store_row rfl 51 _ _ rfl r toldZ (by rfl) (by rfl) 51 _ (HW7.out.1) sizeTold rfl (by simp [toldZ, Value.oneCell']) ?_)
          exact ⟨rfl, _, results_cell2 rfl _ _ r _ _ (0, 0) _ _ rfl rfl (setRow_heap _ _ _ _ _ (0, 0) (HW7.out.1)) Tryz.underlying51 rfl sizeTold, RrPost.no (rd_no HNO.out) rfl (below_row (HW7.out.2) HKR2.out.1 _)⟩
      by_cases c4 : n = 4 ∧ 0 < q
      · obtain ⟨rfl, hq0⟩ := c4
        as_aux_lemma =>
        have hk := (show RkAt W.heap.size k S w0 by have h := HS2.out; rwa [if_neg (by omega)] at h)
        obtain ⟨vc, vl, hk, hvc, hvl⟩ := hk
        obtain ⟨avl, cvl, rfl⟩ := own_form hvl
        have hqi : (0 : Int) < (q : Int) := by omega
        have J1 : JQ x b k 51 w0 #[.int .u64 (S.hard.term : Nat), .int .i64 S.hard.vote, .int .u64 (S.hard.life : Nat), .int .u64 (S.log.base : Nat), .int .u64 (S.log.bterm : Nat), vc, .slice avl S.log.l.length cvl, .string (str S.image)] st1 w1 := ⟨HRR1.out, only_other hk HBK.out.1 HO1.out, .only HO1.out, HBK.out.1⟩
        have HJ1 := hid J1
        obtain ⟨plx, hplx, _⟩ := HRR0.out
        have nb := own_ne hvc hplx (fun cur e => by cases e)
        have nk := own_ne hvc hk (fun cur e => by cases e)
        have mb := own_ne hvl hplx (fun cur e => by cases e)
        have mk := own_ne hvl hk (fun cur e => by cases e)
        have HROW : Hid (∀ w' cs st, JQ x b k 51 w0 cs st w' → w'.ownsRow W.heap.size 3 1 vc S.log.conf.length (intVals S.log.conf) ∧ w'.ownsRow W.heap.size 116 3 (.slice avl S.log.l.length cvl) S.log.l.length (enVals S.log.l)) := hid (fun w' cs st h => ⟨row_kept2 hvc h.2.2.1 nb nk, row_kept2 hvl h.2.2.1 mb mk⟩)
        have HFIN : Hid (∀ w' cs st, JQ x b k 51 w0 cs st w' → w'.heap[r]? = some (.cells toldZ 51) ∧ Below W.heap.size W w') := hid (fun w' cs st h => ⟨h.r HR2.out (Ne.symm HBK.out.2.1) HKR2.out.2.2, kept2_to_below HB2.out h.2.2.1 HB2.out.size HBK.out.2.2 HKR2.out.2.1⟩)
        have him : S.image.length ≤ z ∧ z ≤ 262144 := by have h := HOK.out; exact ⟨h.2.2.1, h.2.1⟩
        have hzi : (str S.image).size = S.image.length := str_size _
        clear J1 hk hvc hvl plx hplx nb nk mb mk HS2

        obtain ⟨a0, st2, E0⟩ := pair_of (pNum x st1)
        obtain ⟨t0, st3, E1⟩ := pair_of (pNum x st2)
        obtain ⟨q0, st4, E2⟩ := pair_of (pCount 3 x st3)
        obtain ⟨d0, st5, E3⟩ := pair_of (pText 2048 x st4)
        have ha0 : a0 < 18446744073709551616 := by have := pNum_lt x st1; rw [E0] at this; exact this
        have hd0 : d0.length ≤ 2048 := by have := pText_le 2048 x st4; rw [E3] at this; exact this
        have hbs : S.log.base ≤ 4611686018427387904 := HOK.out.1.2.2.2.1
        have hLn : S.log.l.length ≤ 900000 := by have := HOK.out.2.2.2; omega
        have HM1 : Hid (S.image.length = z → rdMid (decide (q = 0)) x S z = if mayEn ⟨t0, q0, d0⟩ = true ∧ S.log.base < a0 ∧ a0 - S.log.base - 1 ≤ S.log.l.length then
            some (⟨S.hard, ⟨S.log.base, S.log.bterm, S.log.conf, S.log.l.take (a0 - S.log.base - 1) ++ [⟨t0, q0, d0⟩]⟩, S.image⟩, z, st5) else none) := hid (fun h => (mid_yes HE.out ⟨⟨by omega, by omega⟩, by rw [decide_eq_false (by omega : ¬ q = 0)]; decide, .inr h⟩).trans (kind4 E0 E1 E2 E3))
        have HM2 : Hid (S.image.length ≠ z → rdMid (decide (q = 0)) x S z = none) := hid (fun h => mid_no HE.out (by rintro ⟨_, _, h1⟩; rcases h1 with h1 | h1 <;> omega))
        have HE0 := hid E0
        have HE1 := hid E1
        have HE2 := hid E2
        have HE3 := hid E3
        have hw1 : IntKind.u64.wrap (S.image.length : Int) = (S.image.length : Int) := by rw [IntKind.wrap_u64]; omega
        have HME := hid (fun w => rmay_en ⟨t0, q0, d0⟩ (by simp only; unfold maxLen; omega) w)
        clear E0 E1 E2 E3
        go_wp2_with fail
        refine Calls.mono (jqNum hs HE0.out HJ1.out) ?_
        rintro e w2 ⟨rfl, J2, _⟩
        dsimp only
        have HJ2 := hid J2
        clear J2
        go_wp2_with fail
        refine Calls.mono (jqNum hs HE1.out HJ2.out) ?_
        rintro e w3 ⟨rfl, J3, _⟩
        dsimp only
        have hg3 : w0.heap.size ≤ w3.heap.size := J3.2.2.1.2.2.2.1
        have hkg : k < w3.heap.size := J3.lt
        have hbg : b < w3.heap.size := J3.1.lt
        have HJ4 : Hid (JQ x b k 51 w0 #[.int .u64 (S.hard.term : Nat), .int .i64 S.hard.vote, .int .u64 (S.hard.life : Nat), .int .u64 (S.log.base : Nat), .int .u64 (S.log.bterm : Nat), vc, .slice avl S.log.l.length cvl, .string (str S.image)] st3 (w3.alloc (.cells #[.int .u64 t0, .int .i64 0, .string { data := #[] }] 116))) := hid (J3.below ((Below.refl _ _).alloc (Nat.le_refl _) _))
        have HG4 := hid (heap_alloc_new w3 (.cells #[.int .u64 t0, .int .i64 0, .string { data := #[] }] 116))
        clear J3
        go_upto_region 33 with fail
        generalize w3.alloc (.cells #[.int .u64 t0, .int .i64 0, .string { data := #[] }] 116) = w4 at *
        generalize w3.heap.size = g at *
        have HGN : Hid (g ≠ b ∧ g ≠ k ∧ w0.heap.size ≤ g) := hid (by omega)
        clear hg3 hkg hbg
        go_wp2_with fail
        refine Calls.mono (jqCount (m := 3) (by decide) hs HE2.out HJ4.out) ?_
        rintro e w5 ⟨rfl, J5, O5⟩
        dsimp only
        have hg5 := only_other HG4.out (Ne.symm HGN.out.1) O5
        have f1 := free_in hg5 1
        have c1 := cell_in hg5 1 (.int .i64 0) rfl
        have HJ6 := hid (J5.other HGN.out.1 HGN.out.2.1 HGN.out.2.2 1 (.int .i64 q0))
        have HG6 := hid (show (w5.setCell ⟨g, 1, none⟩ (.int .i64 q0)).heap[g]? = some (.cells #[.int .u64 t0, .int .i64 q0, .string { data := #[] }] 116) from heap_set hg5 1 (.int .i64 q0))
        clear J5 O5 hg5
        go_wp2_with fail
        refine Calls.mono (jqText (m := 2048) (by decide) hs HE3.out HJ6.out) ?_
        rintro e w7 ⟨rfl, J7, O7⟩
        dsimp only
        clear f1 c1
        have hg7 := only_other HG6.out (Ne.symm HGN.out.1) O7
        have f2 := free_in hg7 2
        have c2 := cell_in hg7 2 (.string { data := #[] }) rfl
        have J8 := J7.other HGN.out.1 HGN.out.2.1 HGN.out.2.2 2 (.string (str d0))
        have HG8 := hid (show (w7.setCell ⟨g, 2, none⟩ (.string (str d0))).heap[g]? = some (.cells #[.int .u64 t0, .int .i64 q0, .string (str d0)] 116) from heap_set hg7 2 (.string (str d0)))
        have c7 := J8.at 7 (.string (str S.image)) rfl
        have c6 := J8.at 6 (.slice avl S.log.l.length cvl) rfl
        have c3 := J8.at 3 (.int .u64 (S.log.base : Nat)) rfl
        have HJ8 := hid J8
        have HW8 := hid (HFIN.out _ _ _ J8)
        have HX8 := hid (HROW.out _ _ _ J8)
        clear J7 O7 hg7 J8
        go_upto_region 35 with fail
        clear f2 c2
        generalize w7.setCell ⟨g, 2, none⟩ (.string (str d0)) = w8 at *
        by_cases hz : ¬ S.image.length = z
        · as_aux_lemma =>
          have HNO := hid (HM2.out hz)
          have hq1 : ((S.image.length : Int) == (z : Int)) = false := by simp only [beq_eq_false_iff_ne, ne_eq]; omega
          have hq3 : decide ((S.image.length : Int) = (z : Int)) = false := decide_eq_false (by omega)
          have HNO := hid (no_of_mid HNO.out HN.out HG.out)
          go_upto_region 39 with fail
          as_aux_lemma =>
          go_wp2_with (refine wpList_store_row rfl 51 _ _ rfl r toldZ (by rfl) (by rfl) 51 _ (HW8.out.1) sizeTold rfl (by simp [toldZ, Value.oneCell']) ?_)
          exact ⟨rfl, _, results_cell2 rfl _ _ r _ _ (0, 0) _ _ rfl rfl (setRow_heap _ _ _ _ _ (0, 0) (HW8.out.1)) Tryz.underlying51 rfl sizeTold, RrPost.no (rd_no HNO.out) rfl (below_row (HW8.out.2) HKR2.out.1 _)⟩
        have hz := Decidable.not_not.1 hz
        have HMM := hid (HM1.out hz)
        have hq1 : ((S.image.length : Int) == (z : Int)) = true := by rw [hz]; simp
        have hq2 : (S.image.length : Int) = (z : Int) := by omega
        have hq3 : decide ((S.image.length : Int) = (z : Int)) = true := decide_eq_true hq2
        clear hz hq2
        have g0 := cell_in HG8.out 0 (.int .u64 t0) rfl
        have g1 := cell_in HG8.out 1 (.int .i64 q0) rfl
        have g2 := cell_in HG8.out 2 (.string (str d0)) rfl
        go_wp2_with fail
        refine Calls.mono (HME.out _) ?_
        rintro e w9 ⟨rfl, hb9⟩
        dsimp only
        clear g0 g1 g2
        have HJ9 := hid (HJ8.out.below hb9)
        have HG9 := hid (blk_below' HG8.out hb9)
        have HW9 := hid (HFIN.out _ _ _ HJ9.out)
        have HX9 := hid (HROW.out _ _ _ HJ9.out)
        clear c3 c6 c7 hb9 HW8 HX8 HJ8 HG8
        have c3 := HJ9.out.at 3 (.int .u64 (S.log.base : Nat)) rfl
        have c6 := HJ9.out.at 6 (.slice avl S.log.l.length cvl) rfl
        have hkw : ∃ kb : Nat, kb = a0 - S.log.base := ⟨_, rfl⟩
        obtain ⟨kb, hkb⟩ := hkw
        have hl1 : IntKind.u64.wrap (S.log.l.length : Int) = (S.log.l.length : Int) := by rw [IntKind.wrap_u64]; omega
        have hl2 : IntKind.u64.wrap ((S.log.l.length : Int) + 1) = ((S.log.l.length : Int) + 1) := by rw [IntKind.wrap_u64]; omega
        cases hme : mayEn ⟨t0, q0, d0⟩
        · as_aux_lemma =>
          have HNO := hid (HMM.out.trans (if_neg (by rw [hme]; rintro ⟨h, _⟩; cases h)))
          clear hme
          have HNO := hid (no_of_mid HNO.out HN.out HG.out)
          go_upto_region 39 with fail
          as_aux_lemma =>
          go_wp2_with (refine wpList_store_row rfl 51 _ _ rfl r toldZ (by rfl) (by rfl) 51 _ (HW9.out.1) sizeTold rfl (by simp [toldZ, Value.oneCell']) ?_)
          exact ⟨rfl, _, results_cell2 rfl _ _ r _ _ (0, 0) _ _ rfl rfl (setRow_heap _ _ _ _ _ (0, 0) (HW9.out.1)) Tryz.underlying51 rfl sizeTold, RrPost.no (rd_no HNO.out) rfl (below_row (HW9.out.2) HKR2.out.1 _)⟩
        have HMY := hid hme
        clear hme
        by_cases hab : ¬ S.log.base < a0
        · as_aux_lemma =>
          have HNO := hid (HMM.out.trans (if_neg (by rintro ⟨_, h, _⟩; exact hab h)))
          have hai : decide ((S.log.base : Int) < (a0 : Int)) = false := decide_eq_false (by omega)
          have haj : ¬ ((S.log.base : Int) < (a0 : Int)) := by omega
          clear hab
          have HNO := hid (no_of_mid HNO.out HN.out HG.out)
          go_upto_region 39 with fail
          as_aux_lemma =>
          go_wp2_with (refine wpList_store_row rfl 51 _ _ rfl r toldZ (by rfl) (by rfl) 51 _ (HW9.out.1) sizeTold rfl (by simp [toldZ, Value.oneCell']) ?_)
          exact ⟨rfl, _, results_cell2 rfl _ _ r _ _ (0, 0) _ _ rfl rfl (setRow_heap _ _ _ _ _ (0, 0) (HW9.out.1)) Tryz.underlying51 rfl sizeTold, RrPost.no (rd_no HNO.out) rfl (below_row (HW9.out.2) HKR2.out.1 _)⟩
        have hab := Decidable.not_not.1 hab
        have hai : decide ((S.log.base : Int) < (a0 : Int)) = true := decide_eq_true (by omega)
        have haj : (S.log.base : Int) < (a0 : Int) := by omega
        have hw2 : IntKind.u64.wrap ((a0 : Int) - (S.log.base : Int)) = (kb : Int) := by rw [IntKind.wrap_u64]; omega
        by_cases hkl : ¬ kb ≤ S.log.l.length + 1
        · as_aux_lemma =>
          have HNO := hid (HMM.out.trans (if_neg (by rintro ⟨_, _, h⟩; omega)))
          have hki : decide ((kb : Int) ≤ (S.log.l.length : Int) + 1) = false := decide_eq_false (by omega)
          have hkj : ¬ ((kb : Int) ≤ (S.log.l.length : Int) + 1) := by omega
          clear hab hkl hkb
          have HNO := hid (no_of_mid HNO.out HN.out HG.out)
          go_upto_region 39 with fail
          as_aux_lemma =>
          go_wp2_with (refine wpList_store_row rfl 51 _ _ rfl r toldZ (by rfl) (by rfl) 51 _ (HW9.out.1) sizeTold rfl (by simp [toldZ, Value.oneCell']) ?_)
          exact ⟨rfl, _, results_cell2 rfl _ _ r _ _ (0, 0) _ _ rfl rfl (setRow_heap _ _ _ _ _ (0, 0) (HW9.out.1)) Tryz.underlying51 rfl sizeTold, RrPost.no (rd_no HNO.out) rfl (below_row (HW9.out.2) HKR2.out.1 _)⟩
        have hkl := Decidable.not_not.1 hkl
        have HOKX := hid (HMM.out.trans (if_pos ⟨HMY.out, hab, by omega⟩))
        have hki : decide ((kb : Int) ≤ (S.log.l.length : Int) + 1) = true := decide_eq_true (by omega)
        have hkj : (kb : Int) ≤ (S.log.l.length : Int) + 1 := by omega
        obtain ⟨kk, hkk⟩ : ∃ kk : Nat, kk = a0 - S.log.base - 1 := ⟨_, rfl⟩
        have hw3 : IntKind.u64.wrap ((kb : Int) - 1) = (kk : Int) := by rw [IntKind.wrap_u64]; omega
        rw [← hkk] at HOKX
        have hkL : kk ≤ S.log.l.length := by omega
        have hCL : S.log.l.length ≤ cvl := (Cells.of_row (D := []) HX9.out.2 (by simp)).at.2.1
        have hkc : (kk : Int) ≤ (cvl : Int) := by omega
        have hkc0 : (0 : Int) ≤ (kk : Int) := by omega
        clear hab hkl hkb hkk HMM HMY HM1 HM2 HE0 HE1 HE2 HE3 HME HJ1 HJ2 HJ4 HJ6 HG4 HG6
        as_aux_lemma =>
        go_upto_region 37 with fail
        obtain ⟨i0, hi, hz0, hz1, hz2⟩ := info_parts infoEntry
        have hHeld : ReAt k g #[.int .u64 (S.hard.term : Nat), .int .i64 S.hard.vote, .int .u64 (S.hard.life : Nat), .int .u64 (S.log.base : Nat), .int .u64 (S.log.bterm : Nat), vc, .slice avl S.log.l.length cvl, .string (str S.image)] #[.int .u64 t0, .int .i64 q0, .string (str d0)] w9.drew := ⟨HJ9.out.2.1, HG9.out⟩
        have hE9 := hHeld
        have HJD : Hid (JQ x b k 51 w0 #[.int .u64 (S.hard.term : Nat), .int .i64 S.hard.vote, .int .u64 (S.hard.life : Nat), .int .u64 (S.log.base : Nat), .int .u64 (S.log.bterm : Nat), vc, .slice avl S.log.l.length cvl, .string (str S.image)] st5 w9.drew) := HJ9.out
        have HXD : Hid (w9.drew.ownsRow W.heap.size 3 1 vc S.log.conf.length (intVals S.log.conf) ∧ w9.drew.ownsRow W.heap.size 116 3 (.slice avl S.log.l.length cvl) S.log.l.length (enVals S.log.l)) := HX9.out
        have HSR := hid (Cells.src_take (Cells.of_row (D := []) HXD.out.2 (by simp)) hkL)
        refine wp_region_E (last := 17) (S := ReAt k g #[.int .u64 (S.hard.term : Nat), .int .i64 S.hard.vote, .int .u64 (S.hard.life : Nat), .int .u64 (S.log.base : Nat), .int .u64 (S.log.bterm : Nat), vc, .slice avl S.log.l.length cvl, .string (str S.image)] #[.int .u64 t0, .int .i64 q0, .string (str d0)]) (by kernel_rfl) ?_
        refine wpAnyE_takeD (i := 1) (d := 194) (v := .pointer (some ⟨k, 3, none⟩)) rfl rfl rfl (by kernel_rfl) (by kernel_rfl) (by kernel_rfl) (by kernel_rfl) (fun _ _ _ _ h => h) ?h1 hHeld ?_
        case h1 => intro w hS; go_simp
        simp only [Act.put, List.setIfInBounds_toArray, List.set_cons_zero, List.set_cons_succ]
        refine wpAnyE_takeD (i := 2) (d := 195) (v := .pointer (some ⟨k, 6, none⟩)) rfl rfl rfl (by kernel_rfl) (by kernel_rfl) (by kernel_rfl) (by kernel_rfl) (fun _ _ _ _ h => h) ?h2 hHeld ?_
        case h2 => intro w hS; go_simp
        simp only [Act.put, List.setIfInBounds_toArray, List.set_cons_zero, List.set_cons_succ]
        refine wpAnyE_takeD (i := 3) (d := 196) (v := .slice avl S.log.l.length cvl) rfl rfl rfl (by kernel_rfl) (by kernel_rfl) (by kernel_rfl) (by kernel_rfl) (fun _ _ _ _ h => h) ?h3 hHeld ?_
        case h3 => intro w hS; have e6 := cell_in hS.1 6 (.slice avl S.log.l.length cvl) rfl; go_simp
        simp only [Act.put, List.setIfInBounds_toArray, List.set_cons_zero, List.set_cons_succ]
        refine wpAnyE_takeD (i := 4) (d := 197) (v := .int .u64 a0) rfl rfl rfl (by kernel_rfl) (by kernel_rfl) (by kernel_rfl) (by kernel_rfl) (fun _ _ _ _ h => h) ?h4 hHeld ?_
        case h4 => intro w hS; go_simp
        simp only [Act.put, List.setIfInBounds_toArray, List.set_cons_zero, List.set_cons_succ]
        refine wpAnyE_takeD (i := 5) (d := 198) (v := .pointer (some ⟨k, 3, none⟩)) rfl rfl rfl (by kernel_rfl) (by kernel_rfl) (by kernel_rfl) (by kernel_rfl) (fun _ _ _ _ h => h) ?h5 hHeld ?_
        case h5 => intro w hS; go_simp
        simp only [Act.put, List.setIfInBounds_toArray, List.set_cons_zero, List.set_cons_succ]
        refine wpAnyE_takeD (i := 6) (d := 199) (v := .pointer (some ⟨k, 3, none⟩)) rfl rfl rfl (by kernel_rfl) (by kernel_rfl) (by kernel_rfl) (by kernel_rfl) (fun _ _ _ _ h => h) ?h6 hHeld ?_
        case h6 => intro w hS; go_simp
        simp only [Act.put, List.setIfInBounds_toArray, List.set_cons_zero, List.set_cons_succ]
        refine wpAnyE_takeD (i := 7) (d := 200) (v := .int .u64 (S.log.base : Nat)) rfl rfl rfl (by kernel_rfl) (by kernel_rfl) (by kernel_rfl) (by kernel_rfl) (fun _ _ _ _ h => h) ?h7 hHeld ?_
        case h7 => intro w hS; have e3 := cell_in hS.1 3 (.int .u64 (S.log.base : Nat)) rfl; go_simp
        simp only [Act.put, List.setIfInBounds_toArray, List.set_cons_zero, List.set_cons_succ]
        refine wpAnyE_takeD (i := 8) (d := 201) (v := .int .u64 kb) rfl rfl rfl (by kernel_rfl) (by kernel_rfl) (by kernel_rfl) (by kernel_rfl) (fun _ _ _ _ h => h) ?h8 hHeld ?_
        case h8 => intro w hS; go_simp
        simp only [Act.put, List.setIfInBounds_toArray, List.set_cons_zero, List.set_cons_succ]
        refine wpAnyE_takeD (i := 9) (d := 202) (v := .int .u64 kk) rfl rfl rfl (by kernel_rfl) (by kernel_rfl) (by kernel_rfl) (by kernel_rfl) (fun _ _ _ _ h => h) ?h9 hHeld ?_
        case h9 => intro w hS; go_simp
        simp only [Act.put, List.setIfInBounds_toArray, List.set_cons_zero, List.set_cons_succ]
        refine wpAnyE_takeD (i := 10) (d := 203) (v := .slice avl kk cvl) rfl rfl rfl (by kernel_rfl) (by kernel_rfl) (by kernel_rfl) (by kernel_rfl) (fun _ _ _ _ h => h) ?h10 hHeld ?_
        case h10 => intro w hS; go_simp
        simp only [Act.put, List.setIfInBounds_toArray, List.set_cons_zero, List.set_cons_succ]
        refine wpAnyE_takeD (i := 12) (d := 205) (v := .agg #[.int .u64 t0, .int .i64 q0, .string (str d0)]) rfl rfl rfl (by kernel_rfl) (by kernel_rfl) (by kernel_rfl) (by kernel_rfl) (fun _ _ _ _ h => h) ?h12 hHeld ?_
        case h12 => intro w hS; have e0 := cell_in hS.2 0 (.int .u64 t0) rfl; have e1 := cell_in hS.2 1 (.int .i64 q0) rfl; have e2 := cell_in hS.2 2 (.string (str d0)) rfl; go_simp
        simp only [Act.put, List.setIfInBounds_toArray, List.set_cons_zero, List.set_cons_succ]
        refine dbl_append (iA := 0) (iP := 11) (iB := 13) (iQ := 14) (dA := 193) (dP := 204) (dB := 206) (dQ := 207) (x := .tmp 203) (rs0 := [0, 13]) (rsA := [11, 13]) Tryz.underlying47 hi hz0 hz1 hz2 rfl (by decide) (sv := .slice avl kk cvl) (m := kk) (news := enVals (S.log.l.take kk)) (one := [.int .u64 t0, .int .i64 q0, .string (str d0)])
          rfl rfl rfl rfl rfl rfl rfl rfl rfl rfl rfl rfl rfl rfl (by kernel_rfl) (by kernel_rfl) (by kernel_rfl) (by kernel_rfl) (by kernel_rfl) (by kernel_rfl) (by kernel_rfl) (by kernel_rfl) (by kernel_rfl) (by kernel_rfl) (by kernel_rfl) (by kernel_rfl)
          ?xA ?xB0 ?xB1 ?xB2 (fun u => ⟨rfl, rfl⟩) (fun u b => ⟨rfl, rfl⟩) (fun u q b => ⟨rfl, rfl⟩) HSR.out ?n1 rfl (enVals_one _) ?one1 (by unfold maxLen; omega) (by omega) (fun W' hb => hE9.below hb) ?_
        case xA => intro a' W'; go_simp
        case xB0 => intro W'; go_simp
        case xB1 => intro u W'; simp only [Act.put, List.setIfInBounds_toArray, List.set_cons_zero, List.set_cons_succ]; go_simp
        case xB2 => intro u v W'; simp only [Act.put, List.setIfInBounds_toArray, List.set_cons_zero, List.set_cons_succ]; go_simp
        case n1 => rw [enVals_len, List.length_take, Nat.min_eq_left hkL]; omega
        case one1 => simp [Value.oneCell']
        intro w10 uA uP uB a10 k10 hb10 hr10
        try simp only [Act.put, List.setIfInBounds_toArray, List.set_cons_zero, List.set_cons_succ]
        have HE10 := hid (hE9.below hb10)
        refine wpAnyE_one (i := 15) rfl rfl (by kernel_rfl) ?_
        go_simp
        refine ⟨HE10.out, ?_⟩
        try simp only [Act.put, List.setIfInBounds_toArray, List.set_cons_zero, List.set_cons_succ]
        refine wpAnyE_one (i := 16) rfl rfl (by kernel_rfl) ?_
        go_simp
        refine ⟨HE10.out, ?_⟩
        try simp only [Act.put, List.setIfInBounds_toArray, List.set_cons_zero, List.set_cons_succ]
        have c6 := cell_in HE10.out.1 6 (.slice avl S.log.l.length cvl) rfl
        have f6 := free_in HE10.out.1 6
        refine wpAnyE_last rfl rfl (by kernel_rfl) (by kernel_rfl) ?_
        go_simp
        have hkd : k < w9.drew.heap.size := HJD.out.lt
        have hjd : W.heap.size ≤ w9.drew.heap.size := HW9.out.2.size
        have HJX := hid ((HJD.out.below hb10).set 6 (.slice a10 (kk + 1) k10))
        have HWX := hid (HFIN.out _ _ _ HJX.out)
        have HVX := hid (HROW.out _ _ _ HJX.out).1
        have HNR : Hid ((w10.setCell ⟨k, 6, none⟩ (.slice a10 (kk + 1) k10)).ownsRow W.heap.size 116 3 (.slice a10 (kk + 1) k10) (S.log.l.take kk ++ [(⟨t0, q0, d0⟩ : En)]).length (enVals (S.log.l.take kk ++ [(⟨t0, q0, d0⟩ : En)]))) := hid (by
          rw [enVals_snoc, List.length_append, List.length_take, Nat.min_eq_left hkL]
          exact ownsRow_mono (hr10.kept (grown_set w10 k 6 (.slice a10 (kk + 1) k10)) (.inr (row_ne hr10 hkd))) hjd)
        clear hHeld hE9 HE10 c6 f6 hr10
        have HMX := hid (HOKX.out)
        have HRX := hid (HWX.out.1)
        have HBX := hid (HWX.out.2)
        have HRRX := hid (HJX.out.1)
        have HRKX := hid (rk_of (B := W.heap.size) (k := k) HMX.out ⟨vc, .slice a10 (kk + 1) k10, HJX.out.2.1, HVX.out, HNR.out⟩)
        as_aux_lemma =>
        go_wp2_with fail
        refine Calls.mono (rrEnd HRRX.out) ?_
        rintro e wE ⟨rfl, hoE⟩
        have HRE := hid (only_other HRX.out HBK.out.2.1 hoE)
        have HRKE := hid (HRKX.out.only HRRX.out HBK.out.1 hoE)
        have HBE := hid (below_only HBX.out HBK.out.2.2 hoE HBX.out.size)
        clear hoE
        by_cases he : pEnd x st5 = 0
        · have HNX := hid (next_of_mid HMX.out HN.out HG.out he)
          have HOKE := hid (ok_of_mid HMX.out HOK.out he)
          rw [he]
          go_wp2_with fail
          go_roundw
          case rel => exact ⟨q + 1, _, _, rfl, by go_num, by omega, HRE.out, HBE.out, hid (by rw [if_neg (by omega)]; exact HRKE.out), HOKE, hid (by rw [show decide (q + 1 = 0) = false from decide_eq_false (by omega)]; exact HNX.out)⟩
          case measure => simp [intOf]; omega
        · have HNO := hid (no_of_end HMX.out HN.out HG.out he)
          have hei : ¬ ((pEnd x st5 : Int) = 0) := by omega
          go_upto_region 39 with fail
          as_aux_lemma =>
          go_wp2_with (refine wpList_store_row rfl 51 _ _ rfl r toldZ (by rfl) (by rfl) 51 _ (HRE.out) sizeTold rfl (by simp [toldZ, Value.oneCell']) ?_)
          exact ⟨rfl, _, results_cell2 rfl _ _ r _ _ (0, 0) _ _ rfl rfl (setRow_heap _ _ _ _ _ (0, 0) (HRE.out)) Tryz.underlying51 rfl sizeTold, RrPost.no (rd_no HNO.out) rfl (below_row (HBE.out) HKR2.out.1 _)⟩
      have HM : Hid (rdMid (decide (q = 0)) x S z = none) := hid (mid_no HE.out (by
        rintro ⟨hn, hf, _⟩
        by_cases h0 : q = 0
        · rw [decide_eq_true h0, decide_eq_true_eq] at hf
          exact c1 ⟨hf, h0⟩
        · rw [decide_eq_false h0, decide_eq_false_iff_not] at hf
          omega))
      have HR3 := hid (only_other HR2.out HBK.out.2.1 HO1.out)
      have HB3 := hid (below_only HB2.out HBK.out.2.2 HO1.out HB2.out.size)
      by_cases hq0 : q = 0
      · have hqp : ¬ ((0 : Int) < (q : Int)) := by omega
        by_cases h2 : n = 2
        · subst h2
          have HNO := hid (no_of_mid HM.out HN.out HG.out)
          go_upto_region 39 with fail
          as_aux_lemma =>
          go_wp2_with (refine wpList_store_row rfl 51 _ _ rfl r toldZ (by rfl) (by rfl) 51 _ (HR3.out) sizeTold rfl (by simp [toldZ, Value.oneCell']) ?_)
          exact ⟨rfl, _, results_cell2 rfl _ _ r _ _ (0, 0) _ _ rfl rfl (setRow_heap _ _ _ _ _ (0, 0) (HR3.out)) Tryz.underlying51 rfl sizeTold, RrPost.no (rd_no HNO.out) rfl (below_row (HB3.out) HKR2.out.1 _)⟩
        have n2 : ((n : Int) == 2) = false := by simp only [beq_eq_false_iff_ne, ne_eq]; omega
        have m2 : ¬ ((n : Int) = 2) := by omega
        by_cases h3 : n = 3
        · subst h3
          have HNO := hid (no_of_mid HM.out HN.out HG.out)
          go_upto_region 39 with fail
          as_aux_lemma =>
          go_wp2_with (refine wpList_store_row rfl 51 _ _ rfl r toldZ (by rfl) (by rfl) 51 _ (HR3.out) sizeTold rfl (by simp [toldZ, Value.oneCell']) ?_)
          exact ⟨rfl, _, results_cell2 rfl _ _ r _ _ (0, 0) _ _ rfl rfl (setRow_heap _ _ _ _ _ (0, 0) (HR3.out)) Tryz.underlying51 rfl sizeTold, RrPost.no (rd_no HNO.out) rfl (below_row (HB3.out) HKR2.out.1 _)⟩
        have n3 : ((n : Int) == 3) = false := by simp only [beq_eq_false_iff_ne, ne_eq]; omega
        have m3 : ¬ ((n : Int) = 3) := by omega
        by_cases h4 : n = 4
        · subst h4
          have HNO := hid (no_of_mid HM.out HN.out HG.out)
          go_upto_region 39 with fail
          as_aux_lemma =>
          go_wp2_with (refine wpList_store_row rfl 51 _ _ rfl r toldZ (by rfl) (by rfl) 51 _ (HR3.out) sizeTold rfl (by simp [toldZ, Value.oneCell']) ?_)
          exact ⟨rfl, _, results_cell2 rfl _ _ r _ _ (0, 0) _ _ rfl rfl (setRow_heap _ _ _ _ _ (0, 0) (HR3.out)) Tryz.underlying51 rfl sizeTold, RrPost.no (rd_no HNO.out) rfl (below_row (HB3.out) HKR2.out.1 _)⟩
        have n4 : ((n : Int) == 4) = false := by simp only [beq_eq_false_iff_ne, ne_eq]; omega
        have m4 : ¬ ((n : Int) = 4) := by omega
        have n1 : ((n : Int) == 1) = false := by simp only [beq_eq_false_iff_ne, ne_eq]; omega
        have m1 : ¬ ((n : Int) = 1) := by omega
        have HNO := hid (no_of_mid HM.out HN.out HG.out)
        go_upto_region 39 with fail
        as_aux_lemma =>
        go_wp2_with (refine wpList_store_row rfl 51 _ _ rfl r toldZ (by rfl) (by rfl) 51 _ (HR3.out) sizeTold rfl (by simp [toldZ, Value.oneCell']) ?_)
        exact ⟨rfl, _, results_cell2 rfl _ _ r _ _ (0, 0) _ _ rfl rfl (setRow_heap _ _ _ _ _ (0, 0) (HR3.out)) Tryz.underlying51 rfl sizeTold, RrPost.no (rd_no HNO.out) rfl (below_row (HB3.out) HKR2.out.1 _)⟩
      have n2 : ((n : Int) == 2) = false := by simp only [beq_eq_false_iff_ne, ne_eq]; omega
      have m2 : ¬ ((n : Int) = 2) := by omega
      have n3 : ((n : Int) == 3) = false := by simp only [beq_eq_false_iff_ne, ne_eq]; omega
      have m3 : ¬ ((n : Int) = 3) := by omega
      have n4 : ((n : Int) == 4) = false := by simp only [beq_eq_false_iff_ne, ne_eq]; omega
      have m4 : ¬ ((n : Int) = 4) := by omega
      by_cases h1 : n = 1
      · subst h1
        have hqi : ¬ ((q : Int) = 0) := by omega
        have hqb : ((q : Int) == 0) = false := by simp only [beq_eq_false_iff_ne, ne_eq]; omega
        have HNO := hid (no_of_mid HM.out HN.out HG.out)
        go_upto_region 39 with fail
        as_aux_lemma =>
        go_wp2_with (refine wpList_store_row rfl 51 _ _ rfl r toldZ (by rfl) (by rfl) 51 _ (HR3.out) sizeTold rfl (by simp [toldZ, Value.oneCell']) ?_)
        exact ⟨rfl, _, results_cell2 rfl _ _ r _ _ (0, 0) _ _ rfl rfl (setRow_heap _ _ _ _ _ (0, 0) (HR3.out)) Tryz.underlying51 rfl sizeTold, RrPost.no (rd_no HNO.out) rfl (below_row (HB3.out) HKR2.out.1 _)⟩
      have n1 : ((n : Int) == 1) = false := by simp only [beq_eq_false_iff_ne, ne_eq]; omega
      have m1 : ¬ ((n : Int) = 1) := by omega
      have HNO := hid (no_of_mid HM.out HN.out HG.out)
      go_upto_region 39 with fail
      as_aux_lemma =>
      go_wp2_with (refine wpList_store_row rfl 51 _ _ rfl r toldZ (by rfl) (by rfl) 51 _ (HR3.out) sizeTold rfl (by simp [toldZ, Value.oneCell']) ?_)
      exact ⟨rfl, _, results_cell2 rfl _ _ r _ _ (0, 0) _ _ rfl rfl (setRow_heap _ _ _ _ _ (0, 0) (HR3.out)) Tryz.underlying51 rfl sizeTold, RrPost.no (rd_no HNO.out) rfl (below_row (HB3.out) HKR2.out.1 _)⟩
  obtain rfl : q = xs.length := by omega
  have HGX : Hid (rdGo true (Js.zero, 0) xs = some (S, z)) := hid (by rw [← HG.out, List.drop_length]; rfl)
  obtain ⟨vc, vl, hk1, hvc, hvl⟩ := HRK.out
  obtain ⟨avc, cvc, rfl⟩ := own_form hvc
  obtain ⟨avl, cvl, rfl⟩ := own_form hvl
  have HVC : Hid (wr.drew.ownsRow W.heap.size 3 1 (.slice avc S.log.conf.length cvc) S.log.conf.length (intVals S.log.conf)) := hid hvc
  have HVL : Hid (wr.drew.ownsRow W.heap.size 116 3 (.slice avl S.log.l.length cvl) S.log.l.length (enVals S.log.l)) := hid hvl
  have HR1 : Hid (wr.drew.heap[r]? = some (.cells toldZ 51)) := hid HR1.out
  have HK1 := hid hk1
  have hS9 : RsAt k r #[.int .u64 (S.hard.term : Nat), .int .i64 S.hard.vote, .int .u64 (S.hard.life : Nat), .int .u64 (S.log.base : Nat), .int .u64 (S.log.bterm : Nat), .slice avc S.log.conf.length cvc, .slice avl S.log.l.length cvl, .string (str S.image)] wr.drew := ⟨HK1.out, _, HR1.out, rfl⟩
  have HCO : Hid (∀ W' : World, RsAt k r #[.int .u64 (S.hard.term : Nat), .int .i64 S.hard.vote, .int .u64 (S.hard.life : Nat), .int .u64 (S.log.base : Nat), .int .u64 (S.log.bterm : Nat), .slice avc S.log.conf.length cvc, .slice avl S.log.l.length cvl, .string (str S.image)] W' → W'.cell? ⟨k, 0, none⟩ = some (.int .u64 (S.hard.term : Nat)) ∧ W'.cell? ⟨k, 1, none⟩ = some (.int .i64 S.hard.vote) ∧ W'.cell? ⟨k, 2, none⟩ = some (.int .u64 (S.hard.life : Nat)) ∧ W'.cell? ⟨k, 3, none⟩ = some (.int .u64 (S.log.base : Nat)) ∧ W'.cell? ⟨k, 4, none⟩ = some (.int .u64 (S.log.bterm : Nat)) ∧ W'.cell? ⟨k, 5, none⟩ = some (.slice avc S.log.conf.length cvc) ∧ W'.cell? ⟨k, 6, none⟩ = some (.slice avl S.log.l.length cvl) ∧ W'.cell? ⟨k, 7, none⟩ = some (.string (str S.image))) := fun W' h => ⟨cell_in h.1 0 _ rfl, cell_in h.1 1 _ rfl, cell_in h.1 2 _ rfl, cell_in h.1 3 _ rfl, cell_in h.1 4 _ rfl, cell_in h.1 5 _ rfl, cell_in h.1 6 _ rfl, cell_in h.1 7 _ rfl⟩
  have hzi : (str S.image).size = S.image.length := str_size _
  have him : S.image.length ≤ 262144 := by have h := HOK.out; have := h.2.1; have := h.2.2.1; omega
  have hw1 : IntKind.u64.wrap (S.image.length : Int) = (S.image.length : Int) := by rw [IntKind.wrap_u64]; omega
  clear hk1 hvc hvl HS HRK HG
  go_wp2_with fail
  by_cases hx0 : xs = []
  · as_aux_lemma =>
    have HNO : Hid (rd xs = none) := hid (by rw [hx0]; rfl)
    have HXE := hid hx0
    clear hx0
    refine wp_region_held_drew (S := RsAt k r #[.int .u64 (S.hard.term : Nat), .int .i64 S.hard.vote, .int .u64 (S.hard.life : Nat), .int .u64 (S.log.base : Nat), .int .u64 (S.log.bterm : Nat), .slice avc S.log.conf.length cvc, .slice avl S.log.l.length cvl, .string (str S.image)]) (by kernel_rfl) hS9 (fun hHeld => ?_)
    refine wpAnyH_takeD (i := 0) (d := 218) (v := .agg #[.int .u64 (S.hard.term : Nat), .int .i64 S.hard.vote, .int .u64 (S.hard.life : Nat), .int .u64 (S.log.base : Nat), .int .u64 (S.log.bterm : Nat), .slice avc S.log.conf.length cvc, .slice avl S.log.l.length cvl, .string (str S.image)]) rfl rfl rfl (by kernel_rfl) (by kernel_rfl) (by kernel_rfl) (fun _ _ _ _ h => h) ?h0 hHeld ?_
    case h0 => intro w hS; obtain ⟨e0, e1, e2, e3, e4, e5, e6, e7⟩ := HCO.out w hS; go_simp
    simp only [Act.put, List.setIfInBounds_toArray, List.set_cons_zero, List.set_cons_succ]
    refine wpAnyH_takeD (i := 1) (d := 219) (v := .slice av xs.length cv) rfl rfl rfl (by kernel_rfl) (by kernel_rfl) (by kernel_rfl) (fun _ _ _ _ h => h) ?h1 hHeld ?_
    case h1 => intro w hS; go_simp
    simp only [Act.put, List.setIfInBounds_toArray, List.set_cons_zero, List.set_cons_succ]
    refine wpAnyH_takeD (i := 2) (d := 220) (v := .int .i64 (xs.length : Nat)) rfl rfl rfl (by kernel_rfl) (by kernel_rfl) (by kernel_rfl) (fun _ _ _ _ h => h) ?h2 hHeld ?_
    case h2 => intro w hS; go_simp
    simp only [Act.put, List.setIfInBounds_toArray, List.set_cons_zero, List.set_cons_succ]
    refine wpAnyH_takeD (i := 3) (d := 221) (v := .bool false) rfl rfl rfl (by kernel_rfl) (by kernel_rfl) (by kernel_rfl) (fun _ _ _ _ h => h) ?h3 hHeld ?_
    case h3 => intro w hS; go_simp; exact HXE.out
    simp only [Act.put, List.setIfInBounds_toArray, List.set_cons_zero, List.set_cons_succ]
    refine wpAnyH_takeD (i := 4) (d := 222) (v := .bool false) rfl rfl rfl (by kernel_rfl) (by kernel_rfl) (by kernel_rfl) (fun _ _ _ _ h => h) ?h4 hHeld ?_
    case h4 => intro w hS; go_simp
    simp only [Act.put, List.setIfInBounds_toArray, List.set_cons_zero, List.set_cons_succ]
    refine wpAnyH_takeN (i := 5) (d := 223) rfl rfl (by kernel_rfl) (by kernel_rfl) (by kernel_rfl) (fun _ _ _ _ h => h) (by kernel_rfl) hHeld ?_
    simp only [Act.put, List.setIfInBounds_toArray, List.set_cons_zero, List.set_cons_succ]
    refine wpAnyH_takeN (i := 6) (d := 224) rfl rfl (by kernel_rfl) (by kernel_rfl) (by kernel_rfl) (fun _ _ _ _ h => h) (by kernel_rfl) hHeld ?_
    simp only [Act.put, List.setIfInBounds_toArray, List.set_cons_zero, List.set_cons_succ]
    refine wpAnyH_takeN (i := 7) (d := 225) rfl rfl (by kernel_rfl) (by kernel_rfl) (by kernel_rfl) (fun _ _ _ _ h => h) (by kernel_rfl) hHeld ?_
    simp only [Act.put, List.setIfInBounds_toArray, List.set_cons_zero, List.set_cons_succ]
    refine wpAnyH_takeN (i := 8) (d := 226) rfl rfl (by kernel_rfl) (by kernel_rfl) (by kernel_rfl) (fun _ _ _ _ h => h) (by kernel_rfl) hHeld ?_
    simp only [Act.put, List.setIfInBounds_toArray, List.set_cons_zero, List.set_cons_succ]
    refine wpAnyH_takeN (i := 9) (d := 227) rfl rfl (by kernel_rfl) (by kernel_rfl) (by kernel_rfl) (fun _ _ _ _ h => h) (by kernel_rfl) hHeld ?_
    simp only [Act.put, List.setIfInBounds_toArray, List.set_cons_zero, List.set_cons_succ]
    refine wpAnyH_takeN (i := 10) (d := 228) rfl rfl (by kernel_rfl) (by kernel_rfl) (by kernel_rfl) (fun _ _ _ _ h => h) (by kernel_rfl) hHeld ?_
    simp only [Act.put, List.setIfInBounds_toArray, List.set_cons_zero, List.set_cons_succ]
    refine wpAnyH_takeD (i := 11) (d := 229) (v := .bool false) rfl rfl rfl (by kernel_rfl) (by kernel_rfl) (by kernel_rfl) (fun _ _ _ _ h => h) ?h11 hHeld ?_
    case h11 => intro w hS; go_simp
    simp only [Act.put, List.setIfInBounds_toArray, List.set_cons_zero, List.set_cons_succ]
    obtain ⟨old, HOLD, hold⟩ := hHeld.2
    have HO3 := hid HOLD
    clear HOLD
    refine wpAnyH_one (i := 12) rfl rfl (by kernel_rfl) ?_
    refine wp_store_row 51 _ _ rfl r #[.int .u64 (S.hard.term : Nat), .int .i64 S.hard.vote, .int .u64 (S.hard.life : Nat), .int .u64 (S.log.base : Nat), .int .u64 (S.log.bterm : Nat), .slice avc S.log.conf.length cvc, .slice avl S.log.l.length cvl, .string (str S.image)] (by rfl) (by rfl) 51 _ HO3.out sizeTold hold (by simp [Value.oneCell']) ?_
    refine ⟨hHeld.row HKR2.out.2.2.symm #[.int .u64 (S.hard.term : Nat), .int .i64 S.hard.vote, .int .u64 (S.hard.life : Nat), .int .u64 (S.log.base : Nat), .int .u64 (S.log.bterm : Nat), .slice avc S.log.conf.length cvc, .slice avl S.log.l.length cvl, .string (str S.image)] rfl, ?_⟩
    try simp only [Act.put, List.setIfInBounds_toArray, List.set_cons_zero, List.set_cons_succ]
    refine wpAnyH_one (i := 13) rfl rfl (by kernel_rfl) ?_
    go_simp
    refine ⟨hHeld.row HKR2.out.2.2.symm #[.int .u64 (S.hard.term : Nat), .int .i64 S.hard.vote, .int .u64 (S.hard.life : Nat), .int .u64 (S.log.base : Nat), .int .u64 (S.log.bterm : Nat), .slice avc S.log.conf.length cvc, .slice avl S.log.l.length cvl, .string (str S.image)] rfl, wpAnyH_done (by kernel_rfl) ?_ _⟩
    try simp only [Act.put, List.setIfInBounds_toArray, List.set_cons_zero, List.set_cons_succ]
    have HB9 : Hid (Below W.heap.size W wr.drew) := hid HB1.out.drew
    go_wp2_with fail
    exact ⟨rfl, _, results_cell2 rfl _ _ r _ _ (0, 0) _ (.bool false) rfl rfl (setRow_heap _ _ _ _ _ (0, 0) HO3.out) Tryz.underlying51 rfl sizeTold, RrPost.no HNO.out rfl (below_row HB9.out HKR2.out.1 _)⟩
  · have HXE : Hid (0 < xs.length) := hid (List.length_pos_iff.2 hx0)
    obtain ⟨qc, hqc⟩ : ∃ qc : Bool, qc = decide (S.image.length = z) := ⟨_, rfl⟩
    have hq1 : ((S.image.length : Int) == (z : Int)) = qc := by
      rw [hqc]
      by_cases h : S.image.length = z
      · rw [decide_eq_true h]; simp only [beq_iff_eq]; omega
      · rw [decide_eq_false h]; simp only [beq_eq_false_iff_ne, ne_eq]; omega
    have hq2 : decide ((S.image.length : Int) = (z : Int)) = qc := by
      rw [hqc]
      by_cases h : S.image.length = z
      · rw [decide_eq_true h]; simp only [decide_eq_true_eq]; omega
      · rw [decide_eq_false h]; simp only [decide_eq_false_iff_not]; omega
    have HQB := hid hqc
    have HX0 := hid hx0
    clear hqc hx0
    as_aux_lemma =>
    refine wp_region_held_drew (S := RsAt k r #[.int .u64 (S.hard.term : Nat), .int .i64 S.hard.vote, .int .u64 (S.hard.life : Nat), .int .u64 (S.log.base : Nat), .int .u64 (S.log.bterm : Nat), .slice avc S.log.conf.length cvc, .slice avl S.log.l.length cvl, .string (str S.image)]) (by kernel_rfl) hS9 (fun hHeld => ?_)
    refine wpAnyH_takeD (i := 0) (d := 218) (v := .agg #[.int .u64 (S.hard.term : Nat), .int .i64 S.hard.vote, .int .u64 (S.hard.life : Nat), .int .u64 (S.log.base : Nat), .int .u64 (S.log.bterm : Nat), .slice avc S.log.conf.length cvc, .slice avl S.log.l.length cvl, .string (str S.image)]) rfl rfl rfl (by kernel_rfl) (by kernel_rfl) (by kernel_rfl) (fun _ _ _ _ h => h) ?h0 hHeld ?_
    case h0 => intro w hS; obtain ⟨e0, e1, e2, e3, e4, e5, e6, e7⟩ := HCO.out w hS; go_simp
    simp only [Act.put, List.setIfInBounds_toArray, List.set_cons_zero, List.set_cons_succ]
    refine wpAnyH_takeD (i := 1) (d := 219) (v := .slice av xs.length cv) rfl rfl rfl (by kernel_rfl) (by kernel_rfl) (by kernel_rfl) (fun _ _ _ _ h => h) ?h1 hHeld ?_
    case h1 => intro w hS; go_simp
    simp only [Act.put, List.setIfInBounds_toArray, List.set_cons_zero, List.set_cons_succ]
    refine wpAnyH_takeD (i := 2) (d := 220) (v := .int .i64 (xs.length : Nat)) rfl rfl rfl (by kernel_rfl) (by kernel_rfl) (by kernel_rfl) (fun _ _ _ _ h => h) ?h2 hHeld ?_
    case h2 => intro w hS; go_simp
    simp only [Act.put, List.setIfInBounds_toArray, List.set_cons_zero, List.set_cons_succ]
    refine wpAnyH_takeD (i := 3) (d := 221) (v := .bool true) rfl rfl rfl (by kernel_rfl) (by kernel_rfl) (by kernel_rfl) (fun _ _ _ _ h => h) ?h3 hHeld ?_
    case h3 => intro w hS; go_simp; exact HXE.out
    simp only [Act.put, List.setIfInBounds_toArray, List.set_cons_zero, List.set_cons_succ]
    refine wpAnyH_takeD (i := 4) (d := 222) (v := .bool true) rfl rfl rfl (by kernel_rfl) (by kernel_rfl) (by kernel_rfl) (fun _ _ _ _ h => h) ?h4 hHeld ?_
    case h4 => intro w hS; go_simp
    simp only [Act.put, List.setIfInBounds_toArray, List.set_cons_zero, List.set_cons_succ]
    refine wpAnyH_takeY (i := 5) (d := 223) (v := .pointer (some ⟨k, 7, none⟩)) rfl rfl (by kernel_rfl) (by kernel_rfl) (by kernel_rfl) (fun _ _ _ _ h => h) (by kernel_rfl) (fun w hS => ?_) hHeld ?_
    · go_simp
    simp only [Act.put, List.setIfInBounds_toArray, List.set_cons_zero, List.set_cons_succ]
    refine wpAnyH_takeY (i := 6) (d := 224) (v := .string (str S.image)) rfl rfl (by kernel_rfl) (by kernel_rfl) (by kernel_rfl) (fun _ _ _ _ h => h) (by kernel_rfl) (fun w hS => ?_) hHeld ?_
    · obtain ⟨e0, e1, e2, e3, e4, e5, e6, e7⟩ := HCO.out w hS; go_simp
    simp only [Act.put, List.setIfInBounds_toArray, List.set_cons_zero, List.set_cons_succ]
    refine wpAnyH_takeY (i := 7) (d := 225) (v := .int .i64 (S.image.length : Nat)) rfl rfl (by kernel_rfl) (by kernel_rfl) (by kernel_rfl) (fun _ _ _ _ h => h) (by kernel_rfl) (fun w hS => ?_) hHeld ?_
    · go_simp
    simp only [Act.put, List.setIfInBounds_toArray, List.set_cons_zero, List.set_cons_succ]
    refine wpAnyH_takeY (i := 8) (d := 226) (v := .int .u64 (S.image.length : Nat)) rfl rfl (by kernel_rfl) (by kernel_rfl) (by kernel_rfl) (fun _ _ _ _ h => h) (by kernel_rfl) (fun w hS => ?_) hHeld ?_
    · go_simp
    simp only [Act.put, List.setIfInBounds_toArray, List.set_cons_zero, List.set_cons_succ]
    refine wpAnyH_takeY (i := 9) (d := 227) (v := .int .u64 (z : Nat)) rfl rfl (by kernel_rfl) (by kernel_rfl) (by kernel_rfl) (fun _ _ _ _ h => h) (by kernel_rfl) (fun w hS => ?_) hHeld ?_
    · go_simp
    simp only [Act.put, List.setIfInBounds_toArray, List.set_cons_zero, List.set_cons_succ]
    refine wpAnyH_takeY (i := 10) (d := 228) (v := .bool qc) rfl rfl (by kernel_rfl) (by kernel_rfl) (by kernel_rfl) (fun _ _ _ _ h => h) (by kernel_rfl) (fun w hS => ?_) hHeld ?_
    · go_simp
    simp only [Act.put, List.setIfInBounds_toArray, List.set_cons_zero, List.set_cons_succ]
    refine wpAnyH_takeD (i := 11) (d := 229) (v := .bool qc) rfl rfl rfl (by kernel_rfl) (by kernel_rfl) (by kernel_rfl) (fun _ _ _ _ h => h) ?h11 hHeld ?_
    case h11 => intro w hS; go_simp
    simp only [Act.put, List.setIfInBounds_toArray, List.set_cons_zero, List.set_cons_succ]
    obtain ⟨old, HOLD, hold⟩ := hHeld.2
    have HO3 := hid HOLD
    clear HOLD
    refine wpAnyH_one (i := 12) rfl rfl (by kernel_rfl) ?_
    refine wp_store_row 51 _ _ rfl r #[.int .u64 (S.hard.term : Nat), .int .i64 S.hard.vote, .int .u64 (S.hard.life : Nat), .int .u64 (S.log.base : Nat), .int .u64 (S.log.bterm : Nat), .slice avc S.log.conf.length cvc, .slice avl S.log.l.length cvl, .string (str S.image)] (by rfl) (by rfl) 51 _ HO3.out sizeTold hold (by simp [Value.oneCell']) ?_
    refine ⟨hHeld.row HKR2.out.2.2.symm #[.int .u64 (S.hard.term : Nat), .int .i64 S.hard.vote, .int .u64 (S.hard.life : Nat), .int .u64 (S.log.base : Nat), .int .u64 (S.log.bterm : Nat), .slice avc S.log.conf.length cvc, .slice avl S.log.l.length cvl, .string (str S.image)] rfl, ?_⟩
    try simp only [Act.put, List.setIfInBounds_toArray, List.set_cons_zero, List.set_cons_succ]
    refine wpAnyH_one (i := 13) rfl rfl (by kernel_rfl) ?_
    go_simp
    refine ⟨hHeld.row HKR2.out.2.2.symm #[.int .u64 (S.hard.term : Nat), .int .i64 S.hard.vote, .int .u64 (S.hard.life : Nat), .int .u64 (S.log.base : Nat), .int .u64 (S.log.bterm : Nat), .slice avc S.log.conf.length cvc, .slice avl S.log.l.length cvl, .string (str S.image)] rfl, wpAnyH_done (by kernel_rfl) ?_ _⟩
    try simp only [Act.put, List.setIfInBounds_toArray, List.set_cons_zero, List.set_cons_succ]
    have HB9 : Hid (Below W.heap.size W wr.drew) := hid HB1.out.drew
    go_wp2_with fail
    exact ⟨rfl, _, results_cell2 rfl _ _ r _ _ (0, 0) _ (.bool qc) rfl rfl (setRow_heap _ _ _ _ _ (0, 0) HO3.out) Tryz.underlying51 rfl sizeTold, rd_end (vc := .slice avc S.log.conf.length cvc) (vl := .slice avl S.log.l.length cvl) HRD.out HX0.out HGX.out HQB.out (HVC.out.row1 HR1.out _ (by decide)) (HVL.out.row1 HR1.out _ (by decide)) (below_row HB9.out HKR2.out.1 _)⟩
end Go.Proofs.YtmehcogaopackaaGreat
