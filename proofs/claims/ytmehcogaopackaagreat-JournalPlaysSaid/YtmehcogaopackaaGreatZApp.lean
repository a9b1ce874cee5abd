/-
  The walk of the reference's function Append.
-/
import Derived.Laws.Rows
import Derived.Test.YtmehcogaopackaaGreatGL
import Derived.Test.YtmehcogaopackaaGreatGM
import Derived.Test.YtmehcogaopackaaGreatJAppend
import Derived.Test.YtmehcogaopackaaGreatZDbl
namespace Go.Proofs.YtmehcogaopackaaGreat
open Go.RowKit
set_option linter.unusedVariables false
set_option linter.unusedSimpArgs false
theorem results_cell2 {P : Program} {fn : Func} {p q : Tmp} {ty : TypeId} (h : fn.results = #[.cell p ty, .tmp q]) (tmps : Array Value) (w : World) (g : Nat) (t : TypeId) (cs : Array Value) (fr : Nat × Nat) (d : TypeDesc) (v : Value)
    (hp : tmps.getD p undef = .pointer (some ⟨g, 0, none⟩)) (hq : tmps.getD q undef = v) (hg : w.heap[g]? = some (.cells cs t fr))
    (hu : P.underlying ty = some d) (hd : (match d with | .struct _ | .array _ _ => true | _ => false) = true) (hi : (P.info? ty).map (·.size) = some cs.size) :
    (results fn tmps).run P w = .ok (.tuple #[.agg cs, v]) w := by
  have hp' : tmps[p]?.getD undef = .pointer (some ⟨g, 0, none⟩) := by simpa using hp
  have hq' : tmps[q]?.getD undef = v := by simpa using hq
  simp [results, h, hp', hq', asAddr, run_loadVar_row w g t ty cs fr d hg hu hd hi]
/-- what the reference's Append makes of a state -/
def rApp (S : Js) (fr : Nat) (l : List En) : Js × Bool :=
  if fr ≤ S.log.base ∨ S.log.base + S.log.l.length + 1 < fr ∨ anyBad l = true then (S, false) else
  if l = [] then (S, decide (fr = S.log.base + S.log.l.length + 1)) else
  (⟨S.hard, ⟨S.log.base, S.log.bterm, S.log.conf, S.log.l.take (fr - S.log.base - 1) ++ l⟩, S.image⟩, true)
/-- how it ends -/
def RaPost (D : List Nat) (W : World) (S : Js) (fr : Nat) (l : List En) (vc : Value) (e : Ending) (W' : World) : Prop :=
  (∃ vl', e = .returned (.tuple #[.agg (toldCells (rApp S fr l).1 vc vl'), .bool (rApp S fr l).2]) ∧ Cells D W' vl' (rApp S fr l).1.log.l.length (enVals (rApp S fr l).1.log.l)) ∧ Below W.heap.size W W'
theorem RaPost.no {D : List Nat} {W W' : World} {S : Js} {fr : Nat} {l : List En} {vc vl : Value} (h : rApp S fr l = (S, false)) (hc : Cells D W' vl S.log.l.length (enVals S.log.l)) (hb : Below W.heap.size W W') : RaPost D W S fr l vc (.returned (.tuple #[.agg (toldCells S vc vl), .bool false])) W' := by
  refine ⟨⟨vl, ?_, ?_⟩, hb⟩ <;> rw [h]
  exact hc
theorem RaPost.nil {D : List Nat} {W W' : World} {S : Js} {fr : Nat} {l : List En} {vc vl : Value} {q : Bool} (h : rApp S fr l = (S, q)) (hc : Cells D W' vl S.log.l.length (enVals S.log.l)) (hb : Below W.heap.size W W') : RaPost D W S fr l vc (.returned (.tuple #[.agg (toldCells S vc vl), .bool q])) W' := by
  refine ⟨⟨vl, ?_, ?_⟩, hb⟩ <;> rw [h]
  exact hc
theorem RaPost.yes {D : List Nat} {W W' : World} {S S' : Js} {fr : Nat} {l : List En} {vc vl : Value} (h : rApp S fr l = (S', true)) (hc : Cells D W' vl S'.log.l.length (enVals S'.log.l)) (hb : Below W.heap.size W W') : RaPost D W S fr l vc (.returned (.tuple #[.agg (toldCells S' vc vl), .bool true])) W' := by
  refine ⟨⟨vl, ?_, ?_⟩, hb⟩ <;> rw [h]
  exact hc
theorem Turn.row {F : List Nat} (W : World) (r : Nat) (cs : Array Value) (hr : r ∈ F) : Turn F W (W.setRow r cs) := ⟨rfl, rfl, rfl, by simp [World.setRow], fun b hb hn => setRow_other W r b cs (fun e => hn (e ▸ hr))⟩
/-- a row of another block written -/
theorem Cells.row {D : List Nat} {W : World} {v : Value} {n r : Nat} {xs : List Value} (h : Cells (r :: D) W v n xs) (cs : Array Value) : Cells D (W.setRow r cs) v n xs := h.besides (Turn.row W r cs (by simp)) (fun b hb => .inl (by simp [hb]))
/-- the box of a state, and that of the result -/
def RsAt (k r : Nat) (cs : Array Value) (W : World) : Prop := W.heap[k]? = some (.cells cs 51) ∧ ∃ old, W.heap[r]? = some (.cells old 51) ∧ old.size = 8
theorem RsAt.below {k r : Nat} {cs : Array Value} {W W' : World} (h : RsAt k r cs W) (hb : Below W.heap.size W W') : RsAt k r cs W' := by
  obtain ⟨h1, old, h2, h3⟩ := h
  exact ⟨blk_below h1 hb, old, blk_below h2 hb, h3⟩
theorem RsAt.row {k r : Nat} {cs : Array Value} {W : World} (h : RsAt k r cs W) (hkr : k ≠ r) (zs : Array Value) (hz : zs.size = 8) : RsAt k r cs (W.setRow r zs) := by
  obtain ⟨h1, old, h2, h3⟩ := h
  exact ⟨(setRow_other W r k zs hkr).trans h1, zs, setRow_heap _ _ _ _ _ (0, 0) h2, hz⟩
set_option maxRecDepth 100000 in
set_option maxHeartbeats 8000000 in
theorem rappend_at {D : List Nat} {W : World} (t : Nat) (vo : Int) (lf base bterm : Nat) (conf : List Int) (L : List En) (image : Bytes) (S : Js) (hS : Hid (S = ⟨⟨t, vo, lf⟩, ⟨base, bterm, conf, L⟩, image⟩)) (ac : Option Addr) (cc : Nat) (al : Option Addr) (cl : Nat) (fr : Nat) (l : List En) (v : Value)
    (hvl : Cells D W (.slice al L.length cl) L.length (enVals L)) (hD : ∀ b ∈ D, b < W.heap.size) (hv : Cells [] W v l.length (enVals l)) (hfr : fr < top64) (hbs : base ≤ 4611686018427387904) (hl : l.length ≤ 1000) (hsl : L.length ≤ 900000) (he : ∀ e ∈ l, e.term < top64 ∧ e.data.length ≤ 1048576) :
    Calls Tryz.prog 98 #[.agg #[.int .u64 t, .int .i64 vo, .int .u64 lf, .int .u64 base, .int .u64 bterm, .slice ac conf.length cc, .slice al L.length cl, .string (str image)], .int .u64 fr, v] W fun e W' => RaPost D W S fr l (.slice ac conf.length cc) e W' := by
  obtain ⟨av, cv, rfl⟩ := hv.form
  obtain ⟨hb0, hk0, hr0⟩ := two_boxes W 51 #[.int .u64 t, .int .i64 vo, .int .u64 lf, .int .u64 base, .int .u64 bterm, .slice ac conf.length cc, .slice al L.length cl, .string (str image)] toldZ
  have HV := hid (hv.below hb0)
  have HVL0 := hid (hvl.besides (G' := (W.heap.size + 1) :: D) ((Turn.below (F := []) hb0).mono (by simp)) (fun b hb => by
    rcases List.mem_cons.1 hb with rfl | hb
    · right; omega
    · exact .inl hb))
  have HVX := hid (hv.below hb0).at.2.2
  have HB0 := hid hb0
  have HK0 := hid hk0
  have HR0 := hid hr0
  have HE := hid he
  have HD := hid hD
  unfold top64 at hfr
  have hw1 : IntKind.u64.wrap (((base + L.length : Nat) : Int) + 1) = ((base + L.length + 1 : Nat) : Int) := by rw [IntKind.wrap_u64]; omega
  have HRN := hid (fun (h : fr ≤ base ∨ base + L.length + 1 < fr ∨ anyBad l = true) => show rApp S fr l = (S, false) by rw [hS.out]; exact if_pos h)
  have HRY := hid (fun (h : ¬ (fr ≤ base ∨ base + L.length + 1 < fr ∨ anyBad l = true)) => show rApp S fr l = if l = [] then (S, decide (fr = base + L.length + 1)) else (⟨⟨t, vo, lf⟩, ⟨base, bterm, conf, L.take (fr - base - 1) ++ l⟩, image⟩, true) by rw [hS.out]; exact if_neg h)
  have HTC : Hid (∀ vl, toldCells S (.slice ac conf.length cc) vl = #[.int .u64 t, .int .i64 vo, .int .u64 lf, .int .u64 base, .int .u64 bterm, .slice ac conf.length cc, vl, .string (str image)]) := hid (fun vl => by rw [hS.out]; rfl)
  have HSL : Hid (S.log.l = L) := hid (by rw [hS.out])
  have c3 := cell_in hk0 3 (.int .u64 base) rfl
  have c4 := cell_in hk0 4 (.int .u64 bterm) rfl
  have c5 := cell_in hk0 5 (.slice ac conf.length cc) rfl
  have c6 := cell_in hk0 6 (.slice al L.length cl) rfl
  have HZZ : Hid (((W.alloc (.cells #[.int .u64 t, .int .i64 vo, .int .u64 lf, .int .u64 base, .int .u64 bterm, .slice ac conf.length cc, .slice al L.length cl, .string (str image)] 51)).alloc (.cells toldZ 51)).heap.size = W.heap.size + 2) := hid (by rw [World.size_alloc, World.size_alloc])
  clear hv hvl hb0 hk0 hr0 he hD
  go_enter Tryz.func98, Tryz.ntmps98
  go_upto_region 1 with fail
  rw [show #[Value.int IntKind.u64 0, Value.int IntKind.i64 0, Value.int IntKind.u64 0, Value.int IntKind.u64 0, Value.int IntKind.u64 0, Value.slice none 0 0, Value.slice none 0 0, Value.string { data := #[] }] = toldZ from rfl]
  generalize (W.alloc (.cells #[.int .u64 t, .int .i64 vo, .int .u64 lf, .int .u64 base, .int .u64 bterm, .slice ac conf.length cc, .slice al L.length cl, .string (str image)] 51)).alloc (.cells toldZ 51) = W0 at *
  have HRB0 : Hid (W.heap.size ≤ W.heap.size + 1) := hid (by omega)
  generalize hre : W.heap.size + 1 = r at HR0 HRB0 HVL0 ⊢
  generalize hke : W.heap.size = k at HK0 c3 c4 c5 c6 ⊢
  have HRB : Hid (W.heap.size ≤ r) := HRB0.out
  have hkr : k ≠ r := by omega
  have HKB : Hid (W.heap.size ≤ k) := hid (by omega)
  have HKR := hid hkr
  clear hre hke HRB0 hkr
  have HVL : Hid (Cells (r :: D) W0 (.slice al L.length cl) L.length (enVals L)) := HVL0
  clear HVL0
  by_cases hA : fr ≤ base
  · as_aux_lemma =>
    have hA1 : (fr : Int) ≤ (base : Int) := by omega
    have HRR := hid (HRN.out (.inl hA))
    go_wp2_with (first
    | (refine wpList_load_row rfl 51 _ rfl k (by rfl) 51 _ (0, 0) _ HK0.out Tryz.underlying51 rfl sizeTold ?_)
    | (refine wpList_store_row rfl 51 _ _ rfl r #[.int .u64 t, .int .i64 vo, .int .u64 lf, .int .u64 base, .int .u64 bterm, .slice ac conf.length cc, .slice al L.length cl, .string (str image)] (by rfl) (by rfl) 51 _ HR0.out sizeTold rfl (by simp [Value.oneCell']) ?_))
    have h := hS.out
    subst h
    exact ⟨rfl, _, results_cell2 rfl _ _ r _ _ (0, 0) _ _ rfl rfl (setRow_heap _ _ _ _ _ (0, 0) HR0.out) Tryz.underlying51 rfl sizeTold, RaPost.no HRR.out (HVL.out.row _) (below_row HB0.out HRB.out _)⟩
  have hA1 : ¬ ((fr : Int) ≤ (base : Int)) := by omega
  have HLA := hid (rlast_any base bterm (.slice ac conf.length cc) al L.length cl W0 (by omega) (by omega))
  by_cases hB : base + L.length + 1 < fr
  · as_aux_lemma =>
    have HRR := hid (HRN.out (.inr (.inl hB)))
    obtain ⟨lst, hlst⟩ : ∃ n : Nat, n = base + L.length := ⟨_, rfl⟩
    rw [← hlst] at HLA
    have hw2 : IntKind.u64.wrap ((lst : Int) + 1) = (lst : Int) + 1 := by rw [IntKind.wrap_u64]; omega
    have hB1 : (lst : Int) + 1 < (fr : Int) := by omega
    clear hlst hw1
    go_wp2_with fail
    refine Calls.mono HLA.out ?_
    rintro e w1 ⟨rfl, hb1⟩
    have HK1 := hid (blk_below HK0.out hb1)
    have HR1 := hid (blk_below HR0.out hb1)
    have HB1 := hid (HB0.out.trans (hb1.mono HB0.out.size))
    have HVL1 := hid (HVL.out.below hb1)
    clear hb1 c3 c4 c5 c6
    go_wp2_with (first
    | (refine wpList_load_row rfl 51 _ rfl k (by rfl) 51 _ (0, 0) _ HK1.out Tryz.underlying51 rfl sizeTold ?_)
    | (refine wpList_store_row rfl 51 _ _ rfl r #[.int .u64 t, .int .i64 vo, .int .u64 lf, .int .u64 base, .int .u64 bterm, .slice ac conf.length cc, .slice al L.length cl, .string (str image)] (by rfl) (by rfl) 51 _ HR1.out sizeTold rfl (by simp [Value.oneCell']) ?_))
    have h := hS.out
    subst h
    exact ⟨rfl, _, results_cell2 rfl _ _ r _ _ (0, 0) _ _ rfl rfl (setRow_heap _ _ _ _ _ (0, 0) HR1.out) Tryz.underlying51 rfl sizeTold, RaPost.no HRR.out (HVL1.out.row _) (below_row HB1.out HRB.out _)⟩
  obtain ⟨lst, hlst⟩ : ∃ n : Nat, n = base + L.length := ⟨_, rfl⟩
  rw [← hlst] at HLA
  have hw2 : IntKind.u64.wrap ((lst : Int) + 1) = (lst : Int) + 1 := by rw [IntKind.wrap_u64]; omega
  have hB1 : ¬ ((lst : Int) + 1 < (fr : Int)) := by omega
  have HLST := hid hlst
  clear hlst hw1
  go_wp2_with fail
  refine Calls.mono HLA.out ?_
  rintro e w1 ⟨rfl, hb1⟩
  have HK1 := hid (blk_below HK0.out hb1)
  have HR1 := hid (blk_below HR0.out hb1)
  have HB1 := hid (HB0.out.trans (hb1.mono HB0.out.size))
  have HVL1 := hid (HVL.out.below hb1)
  have HW1 := hid hb1
  clear hb1 c3 c4 c5 c6
  go_wp2_with fail
  go_loopw [8] (fun i wr => ∃ q : Nat, i = .int .i64 q ∧ q ≤ l.length ∧ Below w1.heap.size w1 wr ∧ Hid (∀ e ∈ l.take q, mayEn e = true)) (fun i _ => l.length - (intOf i).toNat)
  case atStart => exact ⟨0, rfl, Nat.zero_le _, Below.refl _ _, fun e he => by simp at he⟩
  case round =>
  obtain ⟨q, rfl, hq, hb, HM⟩ := hrel
  have HK2 := hid (blk_below HK1.out hb)
  have HR2 := hid (blk_below HR1.out hb)
  have HB2 := hid (HB1.out.trans (hb.mono HB1.out.size))
  have HVL2 := hid (HVL1.out.below hb)
  have HW2 := hid (HW1.out.trans (hb.mono HW1.out.size))
  have HQ2 := hid hb
  clear hb
  by_cases hlt : q < l.length
  · as_aux_lemma =>
    obtain ⟨b, off, rfl, hcell⟩ := HVX.out (by rw [enVals_len]; omega)
    have hx0 := hcell wr HW2.out _ _ (enVals_at l q hlt).1
    have hx1 := hcell wr HW2.out _ _ (enVals_at l q hlt).2.1
    have hx2 := hcell wr HW2.out _ _ (enVals_at l q hlt).2.2
    rw [show off + (q * 3 + 1) = off + q * 3 + 1 by omega] at hx1
    rw [show off + (q * 3 + 2) = off + q * 3 + 2 by omega] at hx2
    have HME := hid (rmay_en l[q] (by have := (HE.out _ (List.getElem_mem hlt)).2; unfold maxLen; omega) wr)
    have HTM : Hid (mayEn l[q] = true → ∀ e ∈ l.take (q + 1), mayEn e = true) := hid (fun hm e he => by
      rw [List.take_succ_eq_append_getElem hlt] at he
      rcases List.mem_append.1 he with he | he
      · exact HM.out e he
      · rw [List.mem_singleton.1 he]; exact hm)
    have HTB : Hid (mayEn l[q] = false → anyBad l = true) := hid (fun hm => by
      unfold anyBad
      rw [List.any_eq_true]
      exact ⟨l[q], List.getElem_mem hlt, by simp [hm]⟩)
    clear hcell
    generalize l[q] = en at *
    go_wp2_with fail
    refine Calls.mono HME.out ?_
    rintro e w2 ⟨rfl, hb2⟩
    have HK3 := hid (blk_below HK2.out hb2)
    have HR3 := hid (blk_below HR2.out hb2)
    have HB3 := hid (HB2.out.trans (hb2.mono HB2.out.size))
    have HVL3 := hid (HVL2.out.below hb2)
    have HQ3 := hid (HQ2.out.trans (hb2.mono HQ2.out.size))
    clear hb2 hx0 hx1 hx2
    generalize hme : mayEn en = me at *
    cases me
    · have HRR := hid (HRN.out (.inr (.inr (HTB.out rfl))))
      go_wp2_with (first
    | (refine wpList_load_row rfl 51 _ rfl k (by rfl) 51 _ (0, 0) _ HK3.out Tryz.underlying51 rfl sizeTold ?_)
    | (refine wpList_store_row rfl 51 _ _ rfl r #[.int .u64 t, .int .i64 vo, .int .u64 lf, .int .u64 base, .int .u64 bterm, .slice ac conf.length cc, .slice al L.length cl, .string (str image)] (by rfl) (by rfl) 51 _ HR3.out sizeTold rfl (by simp [Value.oneCell']) ?_))
      have h := hS.out
      subst h
      exact ⟨rfl, _, results_cell2 rfl _ _ r _ _ (0, 0) _ _ rfl rfl (setRow_heap _ _ _ _ _ (0, 0) HR3.out) Tryz.underlying51 rfl sizeTold, RaPost.no HRR.out (HVL3.out.row _) (below_row HB3.out HRB.out _)⟩
    · go_wp2_with fail
      go_roundw
      case rel => exact ⟨q + 1, by go_num, by omega, HQ3.out, HTM.out (by first | rfl | trivial)⟩
      case measure => simp [intOf]; omega
  obtain rfl : q = l.length := by omega
  have HG : Hid (∀ e ∈ l, mayEn e = true) := hid (fun e he => HM.out e (by rw [List.take_length]; exact he))
  have hnb : anyBad l = false := by
    unfold anyBad
    rw [List.any_eq_false]
    intro e he
    simp [HG.out e he]
  have HR := hid (HRY.out (by simp only [not_or]; exact ⟨hA, hB, by simp [hnb]⟩))
  clear hq hlt HM HRN HRY hnb HTC HSL
  by_cases hl0 : l = []
  · as_aux_lemma =>
    subst hl0
    have HR2' := hid (HR.out.trans (if_pos rfl))
    have HLB := hid (rlast_any base bterm (.slice ac conf.length cc) al L.length cl wr.drew (by omega) (by omega))
    rw [← HLST.out] at HLB
    have hS9 : RsAt k r #[.int .u64 t, .int .i64 vo, .int .u64 lf, .int .u64 base, .int .u64 bterm, .slice ac conf.length cc, .slice al L.length cl, .string (str image)] wr.drew := ⟨HK2.out, _, HR2.out, rfl⟩
    have HCO : Hid (∀ W' : World, RsAt k r #[.int .u64 t, .int .i64 vo, .int .u64 lf, .int .u64 base, .int .u64 bterm, .slice ac conf.length cc, .slice al L.length cl, .string (str image)] W' → W'.cell? ⟨k, 0, none⟩ = some (.int .u64 t) ∧ W'.cell? ⟨k, 1, none⟩ = some (.int .i64 vo) ∧ W'.cell? ⟨k, 2, none⟩ = some (.int .u64 lf) ∧ W'.cell? ⟨k, 3, none⟩ = some (.int .u64 base) ∧ W'.cell? ⟨k, 4, none⟩ = some (.int .u64 bterm) ∧ W'.cell? ⟨k, 5, none⟩ = some (.slice ac conf.length cc) ∧ W'.cell? ⟨k, 6, none⟩ = some (.slice al L.length cl) ∧ W'.cell? ⟨k, 7, none⟩ = some (.string (str image))) := fun W' h => ⟨cell_in h.1 0 _ rfl, cell_in h.1 1 _ rfl, cell_in h.1 2 _ rfl, cell_in h.1 3 _ rfl, cell_in h.1 4 _ rfl, cell_in h.1 5 _ rfl, cell_in h.1 6 _ rfl, cell_in h.1 7 _ rfl⟩
    go_wp2_with fail
    refine wp_region_held_drew (S := RsAt k r #[.int .u64 t, .int .i64 vo, .int .u64 lf, .int .u64 base, .int .u64 bterm, .slice ac conf.length cc, .slice al L.length cl, .string (str image)]) (by kernel_rfl) hS9 (fun hHeld => ?_)
    refine wpAnyH_takeD (i := 0) (d := 40) (v := .agg #[.int .u64 t, .int .i64 vo, .int .u64 lf, .int .u64 base, .int .u64 bterm, .slice ac conf.length cc, .slice al L.length cl, .string (str image)]) rfl rfl rfl (by kernel_rfl) (by kernel_rfl) (by kernel_rfl) (fun _ _ _ _ h => h) ?h0 hHeld ?_
    case h0 => intro w hS; obtain ⟨e0, e1, e2, e3, e4, e5, e6, e7⟩ := HCO.out w hS; go_simp
    simp only [Act.put, List.setIfInBounds_toArray, List.set_cons_zero, List.set_cons_succ]
    refine wpAnyH_takeD (i := 1) (d := 41) (v := .int .u64 fr) rfl rfl rfl (by kernel_rfl) (by kernel_rfl) (by kernel_rfl) (fun _ _ _ _ h => h) ?h1 hHeld ?_
    case h1 => intro w _; go_simp
    simp only [Act.put, List.setIfInBounds_toArray, List.set_cons_zero, List.set_cons_succ]
    refine wpAnyH_takeD (i := 2) (d := 42) (v := .pointer (some ⟨k, 3, none⟩)) rfl rfl rfl (by kernel_rfl) (by kernel_rfl) (by kernel_rfl) (fun _ _ _ _ h => h) ?h2 hHeld ?_
    case h2 => intro w _; go_simp
    simp only [Act.put, List.setIfInBounds_toArray, List.set_cons_zero, List.set_cons_succ]
    refine wpAnyH_takeD (i := 3) (d := 43) (v := .agg #[.int .u64 base, .int .u64 bterm, .slice ac conf.length cc, .slice al L.length cl]) rfl rfl rfl (by kernel_rfl) (by kernel_rfl) (by kernel_rfl) (fun _ _ _ _ h => h) ?h3 hHeld ?_
    case h3 => intro w hS; obtain ⟨e0, e1, e2, e3, e4, e5, e6, e7⟩ := HCO.out w hS; go_simp
    simp only [Act.put, List.setIfInBounds_toArray, List.set_cons_zero, List.set_cons_succ]
    have HS9 := hid hS9
    clear hS9 hHeld
    refine wpAnyH_one (i := 4) rfl rfl (by kernel_rfl) ?_
    go_simp
    refine Calls.mono HLB.out ?_
    rintro e w3 ⟨rfl, hb3⟩
    have HS3 := hid (HS9.out.below hb3)
    have HB3 : Hid (Below W.heap.size W w3) := hid (HB2.out.trans ((⟨hb3.os, hb3.tape, hb3.output, hb3.size, hb3.block⟩ : Below wr.heap.size wr w3).mono HB2.out.size))
    have HVL3 : Hid (Cells (r :: D) w3 (.slice al L.length cl) L.length (enVals L)) := hid (HVL2.out.below ⟨hb3.os, hb3.tape, hb3.output, hb3.size, hb3.block⟩)
    clear hb3
    refine ⟨HS3.out, ?_⟩
    try simp only [Act.put, List.setIfInBounds_toArray, List.set_cons_zero, List.set_cons_succ]
    obtain ⟨old, HOLD, hold⟩ := HS3.out.2
    have HO3 := hid HOLD
    clear HOLD
    obtain ⟨qb, hqb⟩ : ∃ qb : Bool, qb = decide (fr = lst + 1) := ⟨_, rfl⟩
    have hq1 : ((fr : Int) == (lst : Int) + 1) = qb := by
      rw [hqb]
      by_cases h : fr = lst + 1
      · rw [decide_eq_true h]; simp only [beq_iff_eq]; omega
      · rw [decide_eq_false h]; simp only [beq_eq_false_iff_ne, ne_eq]; omega
    have hq2 : decide ((fr : Int) = (lst : Int) + 1) = qb := by
      rw [hqb]
      by_cases h : fr = lst + 1
      · rw [decide_eq_true h]; simp only [decide_eq_true_eq]; omega
      · rw [decide_eq_false h]; simp only [decide_eq_false_iff_not]; omega
    have HQB := hid hqb
    clear hqb
    have hS3 := HS3.out
    refine wpAnyH_takeD (i := 5) (d := 45) (v := .int .u64 ((lst : Int) + 1)) rfl rfl rfl (by kernel_rfl) (by kernel_rfl) (by kernel_rfl) (fun _ _ _ _ h => h) ?h5 hS3 ?_
    case h5 => intro w _; go_simp
    simp only [Act.put, List.setIfInBounds_toArray, List.set_cons_zero, List.set_cons_succ]
    refine wpAnyH_takeD (i := 6) (d := 46) (v := .bool qb) rfl rfl rfl (by kernel_rfl) (by kernel_rfl) (by kernel_rfl) (fun _ _ _ _ h => h) ?h6 hS3 ?_
    case h6 => intro w _; go_simp
    simp only [Act.put, List.setIfInBounds_toArray, List.set_cons_zero, List.set_cons_succ]
    clear hS3
    refine wpAnyH_one (i := 7) rfl rfl (by kernel_rfl) ?_
    refine wp_store_row 51 _ _ rfl r #[.int .u64 t, .int .i64 vo, .int .u64 lf, .int .u64 base, .int .u64 bterm, .slice ac conf.length cc, .slice al L.length cl, .string (str image)] (by rfl) (by rfl) 51 _ HO3.out sizeTold hold (by simp [Value.oneCell']) ?_
    refine ⟨HS3.out.row HKR.out #[.int .u64 t, .int .i64 vo, .int .u64 lf, .int .u64 base, .int .u64 bterm, .slice ac conf.length cc, .slice al L.length cl, .string (str image)] rfl, ?_⟩
    try simp only [Act.put, List.setIfInBounds_toArray, List.set_cons_zero, List.set_cons_succ]
    refine wpAnyH_one (i := 8) rfl rfl (by kernel_rfl) ?_
    go_simp
    refine ⟨HS3.out.row HKR.out #[.int .u64 t, .int .i64 vo, .int .u64 lf, .int .u64 base, .int .u64 bterm, .slice ac conf.length cc, .slice al L.length cl, .string (str image)] rfl, wpAnyH_done (by kernel_rfl) ?_ _⟩
    try simp only [Act.put, List.setIfInBounds_toArray, List.set_cons_zero, List.set_cons_succ]
    go_wp2_with fail
    have h := hS.out
    subst h
    exact ⟨rfl, _, results_cell2 rfl _ _ r _ _ (0, 0) _ _ rfl rfl (setRow_heap _ _ _ _ _ (0, 0) HO3.out) Tryz.underlying51 rfl sizeTold, RaPost.nil (HR2'.out.trans (by rw [HQB.out, HLST.out])) (HVL3.out.row _) (below_row HB3.out HRB.out _)⟩
  have HR2' := hid (HR.out.trans (if_neg hl0))
  have hl1 : 0 < l.length := List.length_pos_iff.2 hl0
  have hl2 : ¬ ((l.length : Int) = 0) := by omega
  obtain ⟨ba, oa, rfl, hcella⟩ := HVX.out (by rw [enVals_len]; omega)
  have HCA := hid hcella
  have hwa : IntKind.u64.wrap ((fr : Int) - (base : Int)) = ((fr - base : Nat) : Int) := by rw [IntKind.wrap_u64]; omega
  have hwb : IntKind.u64.wrap (((fr - base : Nat) : Int) - 1) = ((fr - base - 1 : Nat) : Int) := by rw [IntKind.wrap_u64]; omega
  have hkk : fr - base - 1 ≤ L.length := by have := HLST.out; omega
  have hcl : L.length ≤ cl := HVL2.out.at.2.1
  obtain ⟨kb, hkb⟩ : ∃ kb : Nat, kb = fr - base := ⟨_, rfl⟩
  obtain ⟨kk, hkke⟩ : ∃ kk : Nat, kk = fr - base - 1 := ⟨_, rfl⟩
  rw [← hkb] at hwa hwb
  rw [← hkb] at hkke
  rw [show fr - base - 1 = kk by omega] at hkk
  rw [← hkke] at hwb
  have HKK := hid (show fr - base - 1 = kk by omega)
  have hkc : (kk : Int) ≤ (cl : Int) := by omega
  have hkc0 : (0 : Int) ≤ (kk : Int) := by omega
  have hkn : kk ≤ cl := by omega
  clear hkb hkke hcella HR
  obtain ⟨i0, hi0, hz0, hz1, hz2⟩ := info_parts infoEntry
  as_aux_lemma =>
  go_upto_region 11 with fail
  go_cut [9] from 10 (fun s9 w4 => ∃ (ao4 : Option Addr) (co4 : Nat), s9 = .slice ao4 kk co4 ∧ w4.ownsRow W.heap.size 116 3 s9 kk (enVals (L.take kk)) ∧ Below wr.heap.size wr w4)
  case first =>
    have c3 := cell_in HK2.out 3 (.int .u64 base) rfl
    have c6 := cell_in HK2.out 6 (.slice al L.length cl) rfl
    have hwz : W.heap.size ≤ wr.heap.size := HB2.out.size
    cases al with
    | none =>
      have hL0 : L = [] := by
        obtain ⟨_, _, hx⟩ := HVL2.out.at
        cases hLL : L with
        | nil => rfl
        | cons e rr =>
          obtain ⟨b, o, h1, _⟩ := hx (by rw [enVals_len, hLL]; simp)
          cases h1
      have hk0 : kk = 0 := by rw [hL0] at hkk; simpa using hkk
      subst hk0
      have HL0 := hid hL0
      clear hL0
      go_wp2_with fail
      go_meet
      case rel => exact ⟨_, _, rfl, by rw [List.take_zero]; exact World.ownsRow_nil _ _ _ _, Below.refl _ _⟩
    | some ad =>
      go_wp2_with (at_builtin; refine wpList_append_own _ rfl _ _ 47 rfl W.heap.size 116 i0 (.agg #[.int .u64 0, .int .i64 0, .string { data := #[] }]) 3 32 Tryz.underlying47 hi0 hz0 hz1 hz2 rfl (by decide) _ _ _ rfl (World.ownsRow_nil _ _ _ _) ad kk cl (enVals (L.take kk)) rfl ?qc1 ?qc2 ?qc3 ?qc4 ?qc5 ?qc6 ?_)
      case qc1 => rw [enVals_len, List.length_take, Nat.min_eq_left hkk]; omega
      case qc2 =>
        intro j u hj
        rw [← enVals_take] at hj
        obtain ⟨hjl, _⟩ := List.getElem?_eq_some_iff.1 hj
        rw [List.length_take] at hjl
        rw [List.getElem?_take] at hj
        split at hj
        · obtain ⟨b, o, h1, hcell⟩ := HVL2.out.at.2.2 (by omega)
          cases h1
          rw [add_addr]
          exact hcell _ (Below.refl _ _) j u hj
        · cases hj
      case qc3 => exact enVals_one _
      case qc4 => unfold maxLen; omega
      case qc5 => omega
      case qc6 => exact hwz
      intro v' w4 hown' hgrow hnil
      obtain ⟨ao, co, rfl⟩ := own_form hown'
      have HOW := hid (show w4.ownsRow W.heap.size 116 3 (.slice ao (0 + kk) co) kk (enVals (L.take kk)) by simpa using hown')
      have HBN := hid ((Below.refl wr.heap.size wr).grown hgrow (Nat.le_refl _) (fun r hr => by first | cases hr | (simp [Value.ownBlock] at hr)))
      clear hown' hgrow hnil c3 c6
      go_wp2_with fail
      go_meet
      case rel => exact ⟨ao, co, by simp, by simpa using HOW.out, HBN.out⟩
  case rest =>
  obtain ⟨ao4, co4, rfl, hown4, hb4⟩ := hcut
  obtain ⟨w4, hwn⟩ : ∃ x : World, x = wc := ⟨wc, rfl⟩
  subst hwn
  have HK4 := hid (blk_below HK2.out hb4)
  have HR4 := hid (blk_below HR2.out hb4)
  have HB4 := hid (HB2.out.trans (hb4.mono HB2.out.size))
  have HW4 := hid (HW2.out.trans (hb4.mono HW2.out.size))
  have hwz : W.heap.size ≤ w4.heap.size := HB4.out.size
  have HO4 := hid hown4
  clear hb4 hown4
  go_wp2_with (first
    | (at_builtin; go_loud (refine wpList_append_own _ rfl _ _ 47 rfl W.heap.size 116 i0 (.agg #[.int .u64 0, .int .i64 0, .string { data := #[] }]) 3 32 Tryz.underlying47 hi0 hz0 hz1 hz2 rfl (by decide) _ _ _ rfl HO4.out ⟨ba, oa, none⟩ l.length cv (enVals l) rfl (by rw [enVals_len]; omega) (fun j u hu => by rw [add_addr]; exact HCA.out w4 HW4.out j u hu) (enVals_one l) (by unfold maxLen; omega) (by omega) hwz ?_; intro v' w5 hown5 hgrow hnil; obtain ⟨a5, k5, rfl⟩ := own_form hown5; have HK5 := hid ((hgrow.block k (Array.getElem?_eq_some_iff.1 HK4.out).1 (own_ne HO4.out HK4.out (fun cur e => by cases e))).trans HK4.out); have HR5 := hid ((hgrow.block r (Array.getElem?_eq_some_iff.1 HR4.out).1 (own_ne HO4.out HR4.out (fun cur e => by cases e))).trans HR4.out); have HB5 := hid (HB4.out.grown hgrow hwz (fun r hr => (HO4.out.lt r hr).1)); have HO5 := hid hown5; have HK6 := hid (show (w5.setCell ⟨k, 6, none⟩ (.slice a5 (kk + l.length) k5)).heap[k]? = some (.cells #[.int .u64 t, .int .i64 vo, .int .u64 lf, .int .u64 base, .int .u64 bterm, .slice ac conf.length cc, .slice a5 (kk + l.length) k5, .string (str image)] 51) from heap_set HK5.out 6 _); have HR6 := hid (show (w5.setCell ⟨k, 6, none⟩ (.slice a5 (kk + l.length) k5)).heap[r]? = some (.cells toldZ 51) from (Below.heap_setCell _ _ _ _ (fun e => HKR.out (by first | exact e.symm | exact e))).trans HR5.out); clear hown5 hgrow hnil; have c6 := cell_in HK5.out 6 _ rfl; have f6 := free_in HK5.out 6))
    | (refine wpList_load_row rfl 51 _ rfl k (by rfl) 51 _ (0, 0) _ HK6.out Tryz.underlying51 rfl sizeTold ?_)
    | (refine wpList_store_row rfl 51 _ _ rfl r #[.int .u64 t, .int .i64 vo, .int .u64 lf, .int .u64 base, .int .u64 bterm, .slice ac conf.length cc, .slice a5 (kk + l.length) k5, .string (str image)] (by rfl) (by rfl) 51 _ HR6.out sizeTold rfl (by simp [Value.oneCell']) ?_))
  have hvl : (L.take kk ++ l).length = kk + l.length := by rw [List.length_append, List.length_take, Nat.min_eq_left hkk]
  have hr5 : w5.ownsRow W.heap.size 116 3 (.slice a5 (kk + l.length) k5) (L.take kk ++ l).length (enVals (L.take kk ++ l)) := by
    rw [hvl, show enVals (L.take kk ++ l) = enVals (L.take kk) ++ enVals l by simp [enVals]]
    exact HO5.out
  have hb6 : Below W.heap.size W ((w5.setCell ⟨k, 6, none⟩ (.slice a5 (kk + l.length) k5)).setRow r #[.int .u64 t, .int .i64 vo, .int .u64 lf, .int .u64 base, .int .u64 bterm, .slice ac conf.length cc, .slice a5 (kk + l.length) k5, .string (str image)]) := below_row (HB5.out.trans ((Turn.set (F := [k]) w5 k 6 _ (by simp)).toBelow HB5.out.size (by intro b hb; rw [List.mem_singleton.1 hb]; exact HKB.out))) HRB.out _
  have hc6 : Cells D ((w5.setCell ⟨k, 6, none⟩ (.slice a5 (kk + l.length) k5)).setRow r #[.int .u64 t, .int .i64 vo, .int .u64 lf, .int .u64 base, .int .u64 bterm, .slice ac conf.length cc, .slice a5 (kk + l.length) k5, .string (str image)]) (.slice a5 (kk + l.length) k5) (L.take kk ++ l).length (enVals (L.take kk ++ l)) := by
    refine Cells.of_row (ownsRow_of_block hr5 fun b hb => ?_) D HD.out
    have n1 := own_ne hr5 HK5.out (fun cur e => by cases e)
    have n2 := own_ne hr5 HR5.out (fun cur e => by cases e)
    exact (setRow_other _ r b _ (fun e => n2 (by rw [hb, e]))).trans (Below.heap_setCell _ _ _ _ (fun e => n1 (by rw [hb, e])))
  have h := hS.out
  subst h
  exact ⟨rfl, _, results_cell2 rfl _ _ r _ _ (0, 0) _ _ rfl rfl (setRow_heap _ _ _ _ _ (0, 0) HR6.out) Tryz.underlying51 rfl sizeTold, RaPost.yes (HR2'.out.trans (by rw [HKK.out])) hc6 hb6⟩
end Go.Proofs.YtmehcogaopackaaGreat
