/-
  The walk of the reference's Turn, at a Put and at an Add.
-/
import Derived.Test.YtmehcogaopackaaGreatGI
import Derived.Test.YtmehcogaopackaaGreatZDbl
namespace Go.Proofs.YtmehcogaopackaaGreat
open Go.RowKit
set_option linter.unusedVariables false
set_option linter.unusedSimpArgs false
/-- the disk's cells, and the box of a call -/
def TvAt (p bk : Nat) (pc bc : Array Value) (W : World) : Prop := W.heap[p]? = some (.cells pc 80) ∧ W.heap[bk]? = some (.cells bc 33)
theorem TvAt.below {p bk : Nat} {pc bc : Array Value} {W W' : World} (h : TvAt p bk pc bc W) (hb : Below W.heap.size W W') : TvAt p bk pc bc W' := ⟨blk_below h.1 hb, blk_below h.2 hb⟩
theorem infoCall12 : (Tryz.prog.info? 33).map (fun i => (i.zero, i.size, i.bytes)) = some (some (.agg #[.int .i64 0, .string { data := #[] }, .string { data := #[] }]), 3, 40) := by kernel_rfl
theorem clVals_one (cs : List Pd) : ∀ u ∈ clVals cs, u.oneCell' = true := by
  intro u hu
  simp only [clVals, List.mem_flatMap] at hu
  obtain ⟨c, _, hu⟩ := hu
  simp only [List.mem_cons, List.not_mem_nil, or_false] at hu
  rcases hu with rfl | rfl | rfl <;> rfl
theorem Cells.src {D : List Nat} {w : World} {a : Option Addr} {n c : Nat} {xs : List Value} {k : Nat} (h : Cells D w (.slice a n c) n xs) (hx : xs.length = n * k) (hk : 0 < k) :
    (∃ ad c', Value.slice a n c = .slice (some ad) n c' ∧ ∀ W', Below w.heap.size w W' → ∀ j u, xs[j]? = some u → W'.cell? (ad.add j) = some u) ∨ (∃ c', Value.slice a n c = .slice none 0 c' ∧ n = 0 ∧ xs = []) := by
  cases a with
  | some ad =>
    left
    refine ⟨ad, c, rfl, fun W' hb j u hu => ?_⟩
    obtain ⟨b, o, h1, h2⟩ := h.at.2.2 (by have := (List.getElem?_eq_some_iff.1 hu).1; omega)
    cases h1
    rw [show (⟨b, o, none⟩ : Addr).add j = ⟨b, o + j, none⟩ from by unfold Addr.add; split <;> simp_all]
    exact h2 W' hb j u hu
  | none =>
    right
    have h0 : xs = [] := by
      cases xs with
      | nil => rfl
      | cons x xs =>
        obtain ⟨b, o, h1, h2⟩ := h.at.2.2 (by simp)
        cases h1
    have hn : n = 0 := by
      rw [h0] at hx
      rcases Nat.eq_zero_or_pos n with h | h
      · exact h
      · have := Nat.mul_pos h hk
        simp at hx
        omega
    subst hn
    exact ⟨c, rfl, rfl, h0⟩
set_option maxRecDepth 100000 in
set_option maxHeartbeats 8000000 in
theorem rturn_put {G : List Nat} {W : World} {p : Nat} {d : Ds} (h : RdAt G W p d) (hok : d.ok) (hG : ∀ b ∈ G, b < W.heap.size) (hpn : d.pend.length ≤ 1000000) (s : Bytes) (hs : s.length ≤ 549755813888) :
    Calls Tryz.prog 10 #[.pointer (some ⟨p, 0, none⟩), .agg #[.int .i64 2, .string { data := #[108, 111, 103] }, .string (str s)]] W fun e w' => e = .returned (.int .i64 ((d.puts s).2 : Nat)) ∧ RdAt G w' p (d.puts s).1 ∧ Turn [p] W w' := by
  have hb : Below W.heap.size W (W.alloc (.cells #[.int .i64 2, .string { data := #[108, 111, 103] }, .string (str s)] 33)) := (Below.refl _ _).alloc (Nat.le_refl _) _
  have hk := heap_alloc_new W (.cells #[.int .i64 2, .string { data := #[108, 111, 103] }, .string (str s)] 33)
  have H := hid (h.below hb)
  have HB := hid hb
  have HK := hid hk
  have HGL := hid hG
  have hplt := h.lt
  have hzs : (str s).size = s.length := str_size _
  have hzn : (ByteArray.mk #[108, 111, 103]).size = 3 := rfl
  have hus : d.used ≤ d.cap := hok.2.1
  have hcap : d.cap ≤ 1048576 := hok.1
  have HL := hid (fun h0 => may_left (d := d) (n := ((s.length : Int) - lenO d.seen)) h0 hok)
  have HA := hid (show d.puts s = if d.may ((s.length : Int) - lenO d.seen) ≠ 0 then (d, d.may ((s.length : Int) - lenO d.seen)) else (Ds.spend { d with seen := some s, pend := d.pend ++ [⟨true, s⟩] }, 0) from rfl)
  have HMY := hid (show d.may ((s.length : Int) - lenO d.seen) = if d.off then 8 else if d.cap < s.length then 7 else 0 by
    unfold Ds.may Ds.used
    by_cases h1 : d.cap < s.length
    · rw [if_pos (show (d.cap : Int) < (lenO d.seen : Int) + ((s.length : Int) - lenO d.seen) by omega), if_pos h1]
    · rw [if_neg (show ¬ (d.cap : Int) < (lenO d.seen : Int) + ((s.length : Int) - lenO d.seen) by omega), if_neg h1])
  have HOFF := hid (roff_any H.out)
  clear hb hk
  cases hoff : d.off
  case true =>
    as_aux_lemma =>
    rw [hoff] at HOFF
    have HR := hid (show d.puts s = (d, 8) by rw [HA.out, HMY.out, hoff]; simp)
    go_enter Tryz.func10, Tryz.ntmps10
    go_wp2_with fail
    refine Calls.mono HOFF.out ?_
    rintro e w1 ⟨rfl, rfl⟩
    go_wp2_with fail
    go_ret
    rw [HR.out]
    exact ⟨rfl, H.out, (Turn.below (F := []) HB.out).mono (by simp)⟩
  rw [hoff] at HOFF
  rw [hoff] at HMY
  simp only [Bool.false_eq_true, if_false] at HMY
  obtain ⟨vs, vl, vp, h1, h2, h3, h4, h5⟩ := H.out
  obtain ⟨aq, ks, rfl⟩ := h2.form
  obtain ⟨al, kl, rfl⟩ := h3.form
  obtain ⟨ap, kp, rfl⟩ := h4.form
  have HC2 := hid h2
  have HC3 := hid h3
  have HC4 := hid h4
  have HPG := hid h5
  have hE1 : TvAt p W.heap.size (rdCells d (.slice aq (flN d.seen) ks) (.slice al (flN d.lasts) kl) (.slice ap d.pend.length kp)) #[.int .i64 2, .string { data := #[108, 111, 103] }, .string (str s)] (W.alloc (.cells #[.int .i64 2, .string { data := #[108, 111, 103] }, .string (str s)] 33)) := ⟨h1, HK.out⟩
  have HE1 := hid hE1
  have hHG : Hid (∀ b ∈ p :: G, b < W.heap.size) := fun b hb => by
    rcases List.mem_cons.1 hb with rfl | hb
    · exact hplt
    · exact HGL.out b hb
  clear h1 h2 h3 h4 h5 hE1 HK H h hG
  have hbk : W.heap.size < (W.alloc (.cells #[.int .i64 2, .string { data := #[108, 111, 103] }, .string (str s)] 33)).heap.size := by rw [World.size_alloc]; omega
  go_enter Tryz.func10, Tryz.ntmps10
  go_wp2_with fail
  generalize W.alloc (.cells #[.int .i64 2, .string { data := #[108, 111, 103] }, .string (str s)] 33) = W1 at *
  have HBW := hid (show W.heap.size < W1.heap.size from hbk)
  generalize hbke : W.heap.size = bk at HE1 ⊢
  have HBK := hid hbke
  clear hbk hbke
  have HCO : Hid (∀ W' : World, TvAt p bk (rdCells d (.slice aq (flN d.seen) ks) (.slice al (flN d.lasts) kl) (.slice ap d.pend.length kp)) #[.int .i64 2, .string { data := #[108, 111, 103] }, .string (str s)] W' → W'.cell? ⟨p, 0, none⟩ = some (.int .i64 (d.cap : Nat)) ∧ W'.cell? ⟨p, 1, none⟩ = some (.slice aq (flN d.seen) ks) ∧ W'.cell? ⟨p, 3, none⟩ = some (.slice ap d.pend.length kp) ∧ W'.cell? ⟨bk, 0, none⟩ = some (.int .i64 2) ∧ W'.cell? ⟨bk, 1, none⟩ = some (.string { data := #[108, 111, 103] }) ∧ W'.cell? ⟨bk, 2, none⟩ = some (.string (str s))) :=
    fun W' h => ⟨cell_in h.1 0 _ rfl, cell_in h.1 1 _ rfl, cell_in h.1 3 _ rfl, cell_in h.2 0 _ rfl, cell_in h.2 1 _ rfl, cell_in h.2 2 _ rfl⟩
  refine Calls.mono HOFF.out ?_
  rintro e w1 ⟨rfl, rfl⟩

  have HGET := hid (rget_any (W := W1.drew) (D := p :: G) (o := d.seen) (by exact HC2.out))
  have hE : TvAt p bk (rdCells d (.slice aq (flN d.seen) ks) (.slice al (flN d.lasts) kl) (.slice ap d.pend.length kp)) #[.int .i64 2, .string { data := #[108, 111, 103] }, .string (str s)] W1.drew := HE1.out
  go_wp2_with fail
  go_region_held3 (fun W' => W'.cell? ⟨p, 0, none⟩ = some (.int .i64 (d.cap : Nat)) ∧ W'.cell? ⟨p, 1, none⟩ = some (.slice aq (flN d.seen) ks) ∧ W'.cell? ⟨p, 3, none⟩ = some (.slice ap d.pend.length kp) ∧ W'.cell? ⟨bk, 0, none⟩ = some (.int .i64 2) ∧ W'.cell? ⟨bk, 1, none⟩ = some (.string { data := #[108, 111, 103] }) ∧ W'.cell? ⟨bk, 2, none⟩ = some (.string (str s))) (exact HCO.out _ (by assumption))
    ((go_at_call 36; refine Calls.mono HGET.out ?_; rintro e w2 ⟨rfl, rfl⟩))
  have HB2 : Hid (Below W.heap.size W W1.drew) := hid HB.out.drew
  have HE2 : Hid (TvAt p bk (rdCells d (.slice aq (flN d.seen) ks) (.slice al (flN d.lasts) kl) (.slice ap d.pend.length kp)) #[.int .i64 2, .string { data := #[108, 111, 103] }, .string (str s)] W1.drew) := hid hE
  have HC22 : Hid (Cells (p :: G) W1.drew (.slice aq (flN d.seen) ks) (flN d.seen) (flVals d.seen)) := HC2.out
  have HC32 : Hid (Cells (p :: G) W1.drew (.slice al (flN d.lasts) kl) (flN d.lasts) (flVals d.lasts)) := HC3.out
  have HC42 : Hid (Cells (p :: G) W1.drew (.slice ap d.pend.length kp) d.pend.length (clVals d.pend)) := HC4.out
  have HBW2 : Hid (W.heap.size < W1.drew.heap.size) := HBW.out
  clear HGET hE HE1 HC2 HC3 HC4 HB HBW HOFF
  generalize W1.drew = W2 at *
  have hHG2 : ∀ b ∈ p :: G, b < W2.heap.size := fun b hb => by have := hHG.out b hb; have := HBW2.out; omega
  have HHG2 := hid hHG2
  clear hHG2
  have HST : Hid (∀ w : World, Calls Tryz.prog 38 #[.agg #[.int .i64 2, .string { data := #[108, 111, 103] }, .string (str s)]] w fun e w' => e = .returned (.int .i64 1) ∧ Below w.heap.size w w') := hid (fun w => rsteps_any ⟨true, s⟩ w)
  have hdn : doneO d.seen ⟨true, s⟩ 1 = some s := by unfold doneO; rw [if_neg (by omega)]; rfl
  have HDN : Hid (∀ w : World, Below W2.heap.size W2 w → Calls Tryz.prog 37 #[.slice aq (flN d.seen) ks, .agg #[.int .i64 2, .string { data := #[108, 111, 103] }, .string (str s)], .int .i64 1] w fun e w' => ∃ v', e = .returned v' ∧ Cells (p :: G) w' v' 1 (flVals (some s)) ∧ Below w.heap.size w w') := hid (fun w hb => by
    have h := rdone_any (HC22.out.below hb) (fun b hb' => Nat.lt_of_lt_of_le (HHG2.out b hb') hb.size) ⟨true, s⟩ 1 (Nat.le_refl _) (by unfold Ds.used at hus; omega) (by simp only; omega)
    rw [hdn] at h
    exact h)
  have hE2 : TvAt p bk (rdCells d (.slice aq (flN d.seen) ks) (.slice al (flN d.lasts) kl) (.slice ap d.pend.length kp)) #[.int .i64 2, .string { data := #[108, 111, 103] }, .string (str s)] W2.drew := HE2.out
  clear hdn
  go_wp2_with fail
  go_region_held3 (fun W' => W'.cell? ⟨p, 0, none⟩ = some (.int .i64 (d.cap : Nat)) ∧ W'.cell? ⟨p, 1, none⟩ = some (.slice aq (flN d.seen) ks) ∧ W'.cell? ⟨p, 3, none⟩ = some (.slice ap d.pend.length kp) ∧ W'.cell? ⟨bk, 0, none⟩ = some (.int .i64 2) ∧ W'.cell? ⟨bk, 1, none⟩ = some (.string { data := #[108, 111, 103] }) ∧ W'.cell? ⟨bk, 2, none⟩ = some (.string (str s))) (exact HCO.out _ (by assumption))
    (first
    | (go_at_call 38; refine Calls.mono (HST.out _) ?_; rintro e w3 ⟨rfl, hb3⟩; have hE3 := hE2.below hb3; have HB3 : Hid (Below W2.heap.size W2 w3) := hid ⟨hb3.os, hb3.tape, hb3.output, hb3.size, hb3.block⟩; clear hb3)
    | (go_at_call 37; refine Calls.mono (HDN.out _ HB3.out) ?_; rintro e w4 ⟨v4, rfl, hc4, hb4⟩; obtain ⟨a4, k4, rfl⟩ := hc4.form; have hE4 := hE3.below hb4; have HB4 := hid (HB3.out.trans (hb4.mono HB3.out.size)); have HC44 := hid hc4; clear hc4 hb4))
  have HE4 := hid hE4
  clear hE2 hE3 hE4
  have HWI := hid (rwith_any (W := w4.drew) (D := p :: G) (o := d.seen) (by exact HC22.out.below HB4.out.drew) s)
  have hE5 : TvAt p bk (rdCells d (.slice aq (flN d.seen) ks) (.slice al (flN d.lasts) kl) (.slice ap d.pend.length kp)) #[.int .i64 2, .string { data := #[108, 111, 103] }, .string (str s)] w4.drew := HE4.out
  go_wp2_with fail
  go_region_held3 (fun W' => W'.cell? ⟨p, 0, none⟩ = some (.int .i64 (d.cap : Nat)) ∧ W'.cell? ⟨p, 1, none⟩ = some (.slice aq (flN d.seen) ks) ∧ W'.cell? ⟨p, 3, none⟩ = some (.slice ap d.pend.length kp) ∧ W'.cell? ⟨bk, 0, none⟩ = some (.int .i64 2) ∧ W'.cell? ⟨bk, 1, none⟩ = some (.string { data := #[108, 111, 103] }) ∧ W'.cell? ⟨bk, 2, none⟩ = some (.string (str s))) (exact HCO.out _ (by assumption))
    ((go_at_call 39; refine Calls.mono HWI.out ?_; rintro e w6 ⟨v6, rfl, hr6, hb6⟩; obtain ⟨a6, k6, rfl⟩ := own_form hr6; have hE6 := hE5.below hb6; have HB6 : Hid (Below W2.heap.size W2 w6) := hid (HB4.out.trans ((⟨hb6.os, hb6.tape, hb6.output, hb6.size, hb6.block⟩ : Below w4.heap.size w4 w6).mono HB4.out.size)); have HR6 := hid hr6; clear hr6 hb6)
    )
  have HE6 := hid hE6
  have HC6 := hid (Cells.of_row HR6.out (p :: G) (fun b hb => by have h1 := HHG2.out b hb; have h2 := HB4.out.size; show b < w4.heap.size; omega))
  clear hE5 hE6 HR6 HWI HC44 HB4 HE4
  obtain ⟨nl, hnl⟩ : ∃ n : Nat, n = lenO (some s) := ⟨_, rfl⟩
  have hnl2 : nl ≤ 1099511627776 := by rw [hnl]; show s.length ≤ _; omega
  have HUS := hid (rused_any (W := w6.drew) (D := p :: G) (o := some s) (by exact HC6.out) (by rw [← hnl]; omega))
  rw [← hnl] at HUS
  have hE6 : TvAt p bk (rdCells d (.slice aq (flN d.seen) ks) (.slice al (flN d.lasts) kl) (.slice ap d.pend.length kp)) #[.int .i64 2, .string { data := #[108, 111, 103] }, .string (str s)] w6.drew := HE6.out
  go_wp2_with fail
  go_region_held3 (fun W' => W'.cell? ⟨p, 0, none⟩ = some (.int .i64 (d.cap : Nat)) ∧ W'.cell? ⟨p, 1, none⟩ = some (.slice aq (flN d.seen) ks) ∧ W'.cell? ⟨p, 3, none⟩ = some (.slice ap d.pend.length kp) ∧ W'.cell? ⟨bk, 0, none⟩ = some (.int .i64 2) ∧ W'.cell? ⟨bk, 1, none⟩ = some (.string { data := #[108, 111, 103] }) ∧ W'.cell? ⟨bk, 2, none⟩ = some (.string (str s))) (exact HCO.out _ (by assumption))
    ((go_at_call 40; refine Calls.mono HUS.out ?_; rintro e w7 ⟨rfl, rfl⟩))
  have HB7 : Hid (Below W2.heap.size W2 w6.drew) := HB6.out.drew
  have HE7 : Hid (TvAt p bk (rdCells d (.slice aq (flN d.seen) ks) (.slice al (flN d.lasts) kl) (.slice ap d.pend.length kp)) #[.int .i64 2, .string { data := #[108, 111, 103] }, .string (str s)] w6.drew) := HE6.out
  have HC7 : Hid (Cells (p :: G) w6.drew (.slice a6 1 k6) 1 (flVals (some s))) := HC6.out
  clear HUS hE6 HE6 HC6 HB6
  generalize w6.drew = w7 at *
  have HPL7 : Hid (p < w7.heap.size) := (Array.getElem?_eq_some_iff.1 HE7.out.1).1
  by_cases hcp : d.cap < nl
  · as_aux_lemma =>
    have hcp1 : (d.cap : Int) < (nl : Int) := by omega
    have HR := hid (show d.puts s = (d, 7) by rw [HA.out, HMY.out]; rw [if_pos (show d.cap < s.length by have : nl = s.length := hnl; omega), if_pos (by simp)])
    go_wp2_with fail
    go_ret
    rw [HR.out]
    exact ⟨rfl, ⟨_, _, _, HE7.out.1, HC22.out.below HB7.out, HC32.out.below HB7.out, HC42.out.below HB7.out, HPG.out⟩, (Turn.below (F := []) (HB2.out.trans (HB7.out.mono HB2.out.size))).mono (by simp)⟩
  have hcp1 : ¬ ((d.cap : Int) < (nl : Int)) := by omega
  have HR := hid (show d.puts s = (Ds.spend { d with seen := some s, pend := d.pend ++ [⟨true, s⟩] }, 0) by rw [HA.out, HMY.out]; rw [if_neg (show ¬ d.cap < s.length by have : nl = s.length := hnl; omega), if_neg (by simp)])
  have HLL := hid (HL.out (by rw [HMY.out]; rw [if_neg (show ¬ d.cap < s.length by have : nl = s.length := hnl; omega)]))
  have c1 := cell_in HE7.out.1 1 (.slice aq (flN d.seen) ks) rfl
  have f1 := free_in HE7.out.1 1
  clear HL HA HMY
  go_wp2_with fail
  have hE8 : TvAt p bk (rdCells { d with seen := some s } (.slice a6 1 k6) (.slice al (flN d.lasts) kl) (.slice ap d.pend.length kp)) #[.int .i64 2, .string { data := #[108, 111, 103] }, .string (str s)] (w7.setCell ⟨p, 1, none⟩ (.slice a6 1 k6)) := ⟨heap_set HE7.out.1 1 _, (Below.heap_setCell _ _ _ _ (fun e => by have := HBK.out; have := hplt; have e' : bk = p := e; omega)).trans HE7.out.2⟩
  have hT8 : Turn (p :: G) w7 (w7.setCell ⟨p, 1, none⟩ (.slice a6 1 k6)) := .set _ _ _ _ (by simp)
  have hC8 := HC7.out.besides hT8 (fun b hb => .inl hb)
  have hC83 := (HC32.out.below HB7.out).besides hT8 (fun b hb => .inl hb)
  have hC84 := (HC42.out.below HB7.out).besides hT8 (fun b hb => .inl hb)
  have hTW8 : Turn [p] W (w7.setCell ⟨p, 1, none⟩ (.slice a6 1 k6)) := (Turn.below (F := [p]) (HB2.out.trans (HB7.out.mono HB2.out.size))).trans (.set _ _ _ _ (by simp)) (fun b hb => .inl hb)
  have hz8 : (w7.setCell ⟨p, 1, none⟩ (.slice a6 1 k6)).heap.size = w7.heap.size := by simp [World.setCell]
  have HE8 := hid hE8
  have HC8 := hid hC8
  have HC83 := hid hC83
  have HC84 := hid hC84
  have HTW8 := hid hTW8
  have HG8 : Hid (∀ b ∈ p :: G, b < (w7.setCell ⟨p, 1, none⟩ (.slice a6 1 k6)).heap.size) := fun b hb => by have h1 := HHG2.out b hb; have h2 := HB7.out.size; omega
  clear hE8 hT8 hC8 hC83 hC84 hTW8 hz8 c1 f1 HC7 HC22 HC32 HC42 HE7 HB7 HCO
  generalize w7.setCell ⟨p, 1, none⟩ (.slice a6 1 k6) = w8 at *
  obtain ⟨i0, hi, hz0, hz1, hz2⟩ := info_parts infoCall12
  have hE9 : TvAt p bk (rdCells { d with seen := some s } (.slice a6 1 k6) (.slice al (flN d.lasts) kl) (.slice ap d.pend.length kp)) #[.int .i64 2, .string { data := #[108, 111, 103] }, .string (str s)] w8.drew := HE8.out
  refine wp_region_E (last := 12) (S := TvAt p bk (rdCells { d with seen := some s } (.slice a6 1 k6) (.slice al (flN d.lasts) kl) (.slice ap d.pend.length kp)) #[.int .i64 2, .string { data := #[108, 111, 103] }, .string (str s)]) (by kernel_rfl) ?_
  have hHeld := hE9
  refine wpAnyE_takeD (i := 0) (d := 77) (v := .pointer (some ⟨p, 0, none⟩)) rfl rfl rfl (by kernel_rfl) (by kernel_rfl) (by kernel_rfl) (by kernel_rfl) (fun _ _ _ _ h => h) ?h0 hHeld ?_
  case h0 => intro w hS; go_simp
  simp only [Act.put, List.setIfInBounds_toArray, List.set_cons_zero, List.set_cons_succ]
  refine wpAnyE_takeD (i := 2) (d := 79) (v := .pointer (some ⟨p, 0, none⟩)) rfl rfl rfl (by kernel_rfl) (by kernel_rfl) (by kernel_rfl) (by kernel_rfl) (fun _ _ _ _ h => h) ?h2 hHeld ?_
  case h2 => intro w hS; go_simp
  simp only [Act.put, List.setIfInBounds_toArray, List.set_cons_zero, List.set_cons_succ]
  refine wpAnyE_takeD (i := 3) (d := 80) (v := .pointer (some ⟨p, 0, none⟩)) rfl rfl rfl (by kernel_rfl) (by kernel_rfl) (by kernel_rfl) (by kernel_rfl) (fun _ _ _ _ h => h) ?h3 hHeld ?_
  case h3 => intro w hS; go_simp
  simp only [Act.put, List.setIfInBounds_toArray, List.set_cons_zero, List.set_cons_succ]
  refine wpAnyE_takeD (i := 4) (d := 81) (v := .pointer (some ⟨p, 3, none⟩)) rfl rfl rfl (by kernel_rfl) (by kernel_rfl) (by kernel_rfl) (by kernel_rfl) (fun _ _ _ _ h => h) ?h4 hHeld ?_
  case h4 => intro w hS; go_simp
  simp only [Act.put, List.setIfInBounds_toArray, List.set_cons_zero, List.set_cons_succ]
  refine wpAnyE_takeD (i := 5) (d := 82) (v := .slice ap d.pend.length kp) rfl rfl rfl (by kernel_rfl) (by kernel_rfl) (by kernel_rfl) (by kernel_rfl) (fun _ _ _ _ h => h) ?h5 hHeld ?_
  case h5 => intro w hS; have e3 := cell_in hS.1 3 (.slice ap d.pend.length kp) rfl; go_simp
  simp only [Act.put, List.setIfInBounds_toArray, List.set_cons_zero, List.set_cons_succ]
  refine wpAnyE_takeD (i := 7) (d := 84) (v := .agg #[.int .i64 2, .string { data := #[108, 111, 103] }, .string (str s)]) rfl rfl rfl (by kernel_rfl) (by kernel_rfl) (by kernel_rfl) (by kernel_rfl) (fun _ _ _ _ h => h) ?h7 hHeld ?_
  case h7 => intro w hS; have e0 := cell_in hS.2 0 (.int .i64 2) rfl; have e1 := cell_in hS.2 1 (.string { data := #[108, 111, 103] }) rfl; have e2 := cell_in hS.2 2 (.string (str s)) rfl; go_simp
  simp only [Act.put, List.setIfInBounds_toArray, List.set_cons_zero, List.set_cons_succ]
  refine dbl_append (iA := 1) (iP := 6) (iB := 8) (iQ := 9) (dA := 78) (dP := 83) (dB := 85) (dQ := 86) (x := .tmp 82) (rs0 := [1, 8]) (rsA := [6, 8]) Tryz.underlying78 hi hz0 hz1 hz2 rfl (by decide) (sv := .slice ap d.pend.length kp) (m := d.pend.length) (news := clVals d.pend) (one := [.int .i64 2, .string { data := #[108, 111, 103] }, .string (str s)])
    rfl rfl rfl rfl rfl rfl rfl rfl rfl rfl rfl rfl rfl rfl (by kernel_rfl) (by kernel_rfl) (by kernel_rfl) (by kernel_rfl) (by kernel_rfl) (by kernel_rfl) (by kernel_rfl) (by kernel_rfl) (by kernel_rfl) (by kernel_rfl) (by kernel_rfl) (by kernel_rfl)
    ?xA ?xB0 ?xB1 ?xB2 (fun u => ⟨rfl, rfl⟩) (fun u b => ⟨rfl, rfl⟩) (fun u q b => ⟨rfl, rfl⟩) ?src ?n1 rfl (clVals_one _) ?one1 (by unfold maxLen; omega) (by omega) (fun W' hb => hE9.below hb) ?_
  case xA => intro a' W'; go_simp
  case xB0 => intro W'; go_simp
  case xB1 => intro u W'; simp only [Act.put, List.setIfInBounds_toArray, List.set_cons_zero, List.set_cons_succ]; go_simp
  case xB2 => intro u v W'; simp only [Act.put, List.setIfInBounds_toArray, List.set_cons_zero, List.set_cons_succ]; go_simp
  case src => exact Cells.src (w := w8.drew) (k := 3) (show Cells (p :: G) w8.drew _ _ _ from HC84.out) (by rw [clVals_len]; omega) (by omega)
  case n1 => rw [clVals_len]; omega
  case one1 => simp [Value.oneCell']
  intro w9 uA uP uB a9 k9 hb9 hr9
  try simp only [Act.put, List.setIfInBounds_toArray, List.set_cons_zero, List.set_cons_succ]
  have HE10 := hid (hE9.below hb9)
  refine wpAnyE_one (i := 10) rfl rfl (by kernel_rfl) ?_
  go_simp
  refine ⟨HE10.out, ?_⟩
  try simp only [Act.put, List.setIfInBounds_toArray, List.set_cons_zero, List.set_cons_succ]
  refine wpAnyE_one (i := 11) rfl rfl (by kernel_rfl) ?_
  go_simp
  refine ⟨HE10.out, ?_⟩
  try simp only [Act.put, List.setIfInBounds_toArray, List.set_cons_zero, List.set_cons_succ]
  have c3 := cell_in HE10.out.1 3 (.slice ap d.pend.length kp) rfl
  have f3 := free_in HE10.out.1 3
  refine wpAnyE_last rfl rfl (by kernel_rfl) (by kernel_rfl) ?_
  go_simp
  have hb9' : Below w8.heap.size w8 w9 := ⟨hb9.os, hb9.tape, hb9.output, hb9.size, hb9.block⟩
  have HRD := hid (RdAt.mk_set (G := G) (W := w9) (p := p) (d' := { d with seen := some s, pend := d.pend ++ [⟨true, s⟩] }) (o := 3) (v := .slice a9 (d.pend.length + 1) k9) HE10.out.1 rfl (HC8.out.below hb9') (HC83.out.below hb9') (by
    rw [clVals_snoc, List.length_append, List.length_singleton]
    exact Cells.of_row hr9 (p :: G) HG8.out) HPG.out)
  have HTT : Hid (Turn [p] W (w9.setCell ⟨p, 3, none⟩ (.slice a9 (d.pend.length + 1) k9))) := hid ((HTW8.out.trans (Turn.below (F := [p]) hb9') (fun b hb => .inl hb)).trans (.set _ _ _ _ (by simp)) (fun b hb => .inl hb))
  clear HE10 hb9 hb9' hr9 c3 f3 hHeld hE9 HE8 HC8 HC83 HC84 HTW8
  go_wp2_with fail
  refine Calls.mono (rspend_any HRD.out HLL.out) ?_
  rintro e w10 ⟨rfl, hd10, ht10⟩
  have HD10 := hid hd10
  have HT10 := hid (HTT.out.trans ht10 (fun b hb => .inl hb))
  clear hd10 ht10
  go_wp2_with fail
  go_ret
  rw [HR.out]
  exact ⟨rfl, HD10.out, HT10.out⟩
set_option maxRecDepth 100000 in
set_option maxHeartbeats 8000000 in
theorem rturn_add {G : List Nat} {W : World} {p : Nat} {d : Ds} (h : RdAt G W p d) (hok : d.ok) (hG : ∀ b ∈ G, b < W.heap.size) (hpn : d.pend.length ≤ 1000000) (s : Bytes) (hs : s.length ≤ 549755813888) (hse : s ≠ []) :
    Calls Tryz.prog 10 #[.pointer (some ⟨p, 0, none⟩), .agg #[.int .i64 1, .string { data := #[108, 111, 103] }, .string (str s)]] W fun e w' => e = .returned (.int .i64 ((d.add s).2 : Nat)) ∧ RdAt G w' p (d.add s).1 ∧ Turn [p] W w' := by
  have hb : Below W.heap.size W (W.alloc (.cells #[.int .i64 1, .string { data := #[108, 111, 103] }, .string (str s)] 33)) := (Below.refl _ _).alloc (Nat.le_refl _) _
  have hk := heap_alloc_new W (.cells #[.int .i64 1, .string { data := #[108, 111, 103] }, .string (str s)] 33)
  have H := hid (h.below hb)
  have HB := hid hb
  have HK := hid hk
  have HGL := hid hG
  have hplt := h.lt
  have hzs : (str s).size = s.length := str_size _
  have hzn : (ByteArray.mk #[108, 111, 103]).size = 3 := rfl
  have hus : d.used ≤ d.cap := hok.2.1
  have hcap : d.cap ≤ 1048576 := hok.1
  have HL := hid (fun h0 => may_left (d := d) (n := s.length) h0 hok)
  have HA := hid (show d.add s = if d.may s.length ≠ 0 then (d, d.may s.length) else if s = [] then (d, 0) else (Ds.spend { d with seen := some (d.seen.getD [] ++ s), pend := d.pend ++ [⟨false, s⟩] }, 0) from rfl)
  have HMY := hid (show d.may s.length = if d.off then 8 else if d.cap < (d.seen.getD [] ++ s).length then 7 else 0 by
    unfold Ds.may Ds.used lenO
    rw [List.length_append]
    by_cases h1 : d.cap < (d.seen.getD []).length + s.length
    · rw [if_pos (show (d.cap : Int) < ((d.seen.getD []).length : Int) + (s.length : Int) by omega), if_pos h1]
    · rw [if_neg (show ¬ (d.cap : Int) < ((d.seen.getD []).length : Int) + (s.length : Int) by omega), if_neg h1])
  have hemp : (str s).toList.isEmpty = false := by rw [show (str s).toList = s by rw [ByteArray.toList_eq]; rfl]; cases s with | nil => exact absurd rfl hse | cons => rfl
  have HOFF := hid (roff_any H.out)
  clear hb hk
  cases hoff : d.off
  case true =>
    as_aux_lemma =>
    rw [hoff] at HOFF
    have HR := hid (show d.add s = (d, 8) by rw [HA.out, HMY.out, hoff]; simp)
    go_enter Tryz.func10, Tryz.ntmps10
    go_wp2_with fail
    refine Calls.mono HOFF.out ?_
    rintro e w1 ⟨rfl, rfl⟩
    go_wp2_with fail
    go_ret
    rw [HR.out]
    exact ⟨rfl, H.out, (Turn.below (F := []) HB.out).mono (by simp)⟩
  rw [hoff] at HOFF
  rw [hoff] at HMY
  simp only [Bool.false_eq_true, if_false] at HMY
  obtain ⟨vs, vl, vp, h1, h2, h3, h4, h5⟩ := H.out
  obtain ⟨aq, ks, rfl⟩ := h2.form
  obtain ⟨al, kl, rfl⟩ := h3.form
  obtain ⟨ap, kp, rfl⟩ := h4.form
  have HC2 := hid h2
  have HC3 := hid h3
  have HC4 := hid h4
  have HPG := hid h5
  have hE1 : TvAt p W.heap.size (rdCells d (.slice aq (flN d.seen) ks) (.slice al (flN d.lasts) kl) (.slice ap d.pend.length kp)) #[.int .i64 1, .string { data := #[108, 111, 103] }, .string (str s)] (W.alloc (.cells #[.int .i64 1, .string { data := #[108, 111, 103] }, .string (str s)] 33)) := ⟨h1, HK.out⟩
  have HE1 := hid hE1
  have hHG : Hid (∀ b ∈ p :: G, b < W.heap.size) := fun b hb => by
    rcases List.mem_cons.1 hb with rfl | hb
    · exact hplt
    · exact HGL.out b hb
  clear h1 h2 h3 h4 h5 hE1 HK H h hG
  have hbk : W.heap.size < (W.alloc (.cells #[.int .i64 1, .string { data := #[108, 111, 103] }, .string (str s)] 33)).heap.size := by rw [World.size_alloc]; omega
  go_enter Tryz.func10, Tryz.ntmps10
  go_wp2_with fail
  generalize W.alloc (.cells #[.int .i64 1, .string { data := #[108, 111, 103] }, .string (str s)] 33) = W1 at *
  have HBW := hid (show W.heap.size < W1.heap.size from hbk)
  generalize hbke : W.heap.size = bk at HE1 ⊢
  have HBK := hid hbke
  clear hbk hbke
  have HCO : Hid (∀ W' : World, TvAt p bk (rdCells d (.slice aq (flN d.seen) ks) (.slice al (flN d.lasts) kl) (.slice ap d.pend.length kp)) #[.int .i64 1, .string { data := #[108, 111, 103] }, .string (str s)] W' → W'.cell? ⟨p, 0, none⟩ = some (.int .i64 (d.cap : Nat)) ∧ W'.cell? ⟨p, 1, none⟩ = some (.slice aq (flN d.seen) ks) ∧ W'.cell? ⟨p, 3, none⟩ = some (.slice ap d.pend.length kp) ∧ W'.cell? ⟨bk, 0, none⟩ = some (.int .i64 1) ∧ W'.cell? ⟨bk, 1, none⟩ = some (.string { data := #[108, 111, 103] }) ∧ W'.cell? ⟨bk, 2, none⟩ = some (.string (str s))) :=
    fun W' h => ⟨cell_in h.1 0 _ rfl, cell_in h.1 1 _ rfl, cell_in h.1 3 _ rfl, cell_in h.2 0 _ rfl, cell_in h.2 1 _ rfl, cell_in h.2 2 _ rfl⟩
  refine Calls.mono HOFF.out ?_
  rintro e w1 ⟨rfl, rfl⟩

  have HGET := hid (rget_any (W := W1.drew) (D := p :: G) (o := d.seen) (by exact HC2.out))
  have hE : TvAt p bk (rdCells d (.slice aq (flN d.seen) ks) (.slice al (flN d.lasts) kl) (.slice ap d.pend.length kp)) #[.int .i64 1, .string { data := #[108, 111, 103] }, .string (str s)] W1.drew := HE1.out
  go_wp2_with fail
  go_region_held3 (fun W' => W'.cell? ⟨p, 0, none⟩ = some (.int .i64 (d.cap : Nat)) ∧ W'.cell? ⟨p, 1, none⟩ = some (.slice aq (flN d.seen) ks) ∧ W'.cell? ⟨p, 3, none⟩ = some (.slice ap d.pend.length kp) ∧ W'.cell? ⟨bk, 0, none⟩ = some (.int .i64 1) ∧ W'.cell? ⟨bk, 1, none⟩ = some (.string { data := #[108, 111, 103] }) ∧ W'.cell? ⟨bk, 2, none⟩ = some (.string (str s))) (exact HCO.out _ (by assumption))
    ((go_at_call 36; refine Calls.mono HGET.out ?_; rintro e w2 ⟨rfl, rfl⟩))
  have HB2 : Hid (Below W.heap.size W W1.drew) := hid HB.out.drew
  have HE2 : Hid (TvAt p bk (rdCells d (.slice aq (flN d.seen) ks) (.slice al (flN d.lasts) kl) (.slice ap d.pend.length kp)) #[.int .i64 1, .string { data := #[108, 111, 103] }, .string (str s)] W1.drew) := hid hE
  have HC22 : Hid (Cells (p :: G) W1.drew (.slice aq (flN d.seen) ks) (flN d.seen) (flVals d.seen)) := HC2.out
  have HC32 : Hid (Cells (p :: G) W1.drew (.slice al (flN d.lasts) kl) (flN d.lasts) (flVals d.lasts)) := HC3.out
  have HC42 : Hid (Cells (p :: G) W1.drew (.slice ap d.pend.length kp) d.pend.length (clVals d.pend)) := HC4.out
  have HBW2 : Hid (W.heap.size < W1.drew.heap.size) := HBW.out
  clear HGET hE HE1 HC2 HC3 HC4 HB HBW HOFF
  generalize W1.drew = W2 at *
  have hHG2 : ∀ b ∈ p :: G, b < W2.heap.size := fun b hb => by have := hHG.out b hb; have := HBW2.out; omega
  have HHG2 := hid hHG2
  clear hHG2
  have HST : Hid (∀ w : World, Calls Tryz.prog 38 #[.agg #[.int .i64 1, .string { data := #[108, 111, 103] }, .string (str s)]] w fun e w' => e = .returned (.int .i64 (s.length : Nat)) ∧ Below w.heap.size w w') := hid (fun w => rsteps_any ⟨false, s⟩ w)
  have hdn : doneO d.seen ⟨false, s⟩ s.length = some (d.seen.getD [] ++ s) := by
    have : 0 < s.length := List.length_pos_iff.2 hse
    unfold doneO
    rw [if_neg (by omega)]
    simp
  have HDN : Hid (∀ w : World, Below W2.heap.size W2 w → Calls Tryz.prog 37 #[.slice aq (flN d.seen) ks, .agg #[.int .i64 1, .string { data := #[108, 111, 103] }, .string (str s)], .int .i64 (s.length : Nat)] w fun e w' => ∃ v', e = .returned v' ∧ Cells (p :: G) w' v' 1 (flVals (some (d.seen.getD [] ++ s))) ∧ Below w.heap.size w w') := hid (fun w hb => by
    have h := rdone_any (HC22.out.below hb) (fun b hb' => Nat.lt_of_lt_of_le (HHG2.out b hb') hb.size) ⟨false, s⟩ s.length (Nat.le_refl _) (by unfold Ds.used at hus; omega) (by simp only; omega)
    rw [hdn] at h
    exact h)
  have hE2 : TvAt p bk (rdCells d (.slice aq (flN d.seen) ks) (.slice al (flN d.lasts) kl) (.slice ap d.pend.length kp)) #[.int .i64 1, .string { data := #[108, 111, 103] }, .string (str s)] W2.drew := HE2.out
  clear hdn
  go_wp2_with fail
  go_region_held3 (fun W' => W'.cell? ⟨p, 0, none⟩ = some (.int .i64 (d.cap : Nat)) ∧ W'.cell? ⟨p, 1, none⟩ = some (.slice aq (flN d.seen) ks) ∧ W'.cell? ⟨p, 3, none⟩ = some (.slice ap d.pend.length kp) ∧ W'.cell? ⟨bk, 0, none⟩ = some (.int .i64 1) ∧ W'.cell? ⟨bk, 1, none⟩ = some (.string { data := #[108, 111, 103] }) ∧ W'.cell? ⟨bk, 2, none⟩ = some (.string (str s))) (exact HCO.out _ (by assumption))
    (first
    | (go_at_call 38; refine Calls.mono (HST.out _) ?_; rintro e w3 ⟨rfl, hb3⟩; have hE3 := hE2.below hb3; have HB3 : Hid (Below W2.heap.size W2 w3) := hid ⟨hb3.os, hb3.tape, hb3.output, hb3.size, hb3.block⟩; clear hb3)
    | (go_at_call 37; refine Calls.mono (HDN.out _ HB3.out) ?_; rintro e w4 ⟨v4, rfl, hc4, hb4⟩; obtain ⟨a4, k4, rfl⟩ := hc4.form; have hE4 := hE3.below hb4; have HB4 := hid (HB3.out.trans (hb4.mono HB3.out.size)); have HC44 := hid hc4; clear hc4 hb4))
  have HE4 := hid hE4
  clear hE2 hE3 hE4
  have HE6 := HE4
  have HB6 := HB4
  have HC6 := HC44
  clear HC44 HB4 HE4
  obtain ⟨w6, hw6⟩ : ∃ x : World, x = w4 := ⟨_, rfl⟩
  subst hw6
  obtain ⟨a6, ha6⟩ : ∃ x : Option Addr, x = a4 := ⟨_, rfl⟩
  subst ha6
  obtain ⟨k6, hk6⟩ : ∃ x : Nat, x = k4 := ⟨_, rfl⟩
  subst hk6
  obtain ⟨nl, hnl⟩ : ∃ n : Nat, n = lenO (some (d.seen.getD [] ++ s)) := ⟨_, rfl⟩
  have hnl2 : nl ≤ 1099511627776 := by rw [hnl]; show (d.seen.getD [] ++ s).length ≤ _; rw [List.length_append]; unfold Ds.used lenO at hus; omega
  have HUS := hid (rused_any (W := w6.drew) (D := p :: G) (o := some (d.seen.getD [] ++ s)) (by exact HC6.out) (by rw [← hnl]; omega))
  rw [← hnl] at HUS
  have hE6 : TvAt p bk (rdCells d (.slice aq (flN d.seen) ks) (.slice al (flN d.lasts) kl) (.slice ap d.pend.length kp)) #[.int .i64 1, .string { data := #[108, 111, 103] }, .string (str s)] w6.drew := HE6.out
  go_wp2_with fail
  go_region_held3 (fun W' => W'.cell? ⟨p, 0, none⟩ = some (.int .i64 (d.cap : Nat)) ∧ W'.cell? ⟨p, 1, none⟩ = some (.slice aq (flN d.seen) ks) ∧ W'.cell? ⟨p, 3, none⟩ = some (.slice ap d.pend.length kp) ∧ W'.cell? ⟨bk, 0, none⟩ = some (.int .i64 1) ∧ W'.cell? ⟨bk, 1, none⟩ = some (.string { data := #[108, 111, 103] }) ∧ W'.cell? ⟨bk, 2, none⟩ = some (.string (str s))) (exact HCO.out _ (by assumption))
    ((go_at_call 40; refine Calls.mono HUS.out ?_; rintro e w7 ⟨rfl, rfl⟩))
  have HB7 : Hid (Below W2.heap.size W2 w6.drew) := HB6.out.drew
  have HE7 : Hid (TvAt p bk (rdCells d (.slice aq (flN d.seen) ks) (.slice al (flN d.lasts) kl) (.slice ap d.pend.length kp)) #[.int .i64 1, .string { data := #[108, 111, 103] }, .string (str s)] w6.drew) := HE6.out
  have HC7 : Hid (Cells (p :: G) w6.drew (.slice a6 1 k6) 1 (flVals (some (d.seen.getD [] ++ s)))) := HC6.out
  clear HUS hE6 HE6 HC6 HB6
  generalize w6.drew = w7 at *
  have HPL7 : Hid (p < w7.heap.size) := (Array.getElem?_eq_some_iff.1 HE7.out.1).1
  by_cases hcp : d.cap < nl
  · as_aux_lemma =>
    have hcp1 : (d.cap : Int) < (nl : Int) := by omega
    have HR := hid (show d.add s = (d, 7) by rw [HA.out, HMY.out]; rw [if_pos (show d.cap < (d.seen.getD [] ++ s).length by have : nl = (d.seen.getD [] ++ s).length := hnl; omega), if_pos (by simp)])
    go_wp2_with fail
    go_ret
    rw [HR.out]
    exact ⟨rfl, ⟨_, _, _, HE7.out.1, HC22.out.below HB7.out, HC32.out.below HB7.out, HC42.out.below HB7.out, HPG.out⟩, (Turn.below (F := []) (HB2.out.trans (HB7.out.mono HB2.out.size))).mono (by simp)⟩
  have hcp1 : ¬ ((d.cap : Int) < (nl : Int)) := by omega
  have HR := hid (show d.add s = (Ds.spend { d with seen := some (d.seen.getD [] ++ s), pend := d.pend ++ [⟨false, s⟩] }, 0) by rw [HA.out, HMY.out]; rw [if_neg (show ¬ d.cap < (d.seen.getD [] ++ s).length by have : nl = (d.seen.getD [] ++ s).length := hnl; omega), if_neg (by simp), if_neg hse])
  have HLL := hid (HL.out (by rw [HMY.out]; rw [if_neg (show ¬ d.cap < (d.seen.getD [] ++ s).length by have : nl = (d.seen.getD [] ++ s).length := hnl; omega)]))
  have c1 := cell_in HE7.out.1 1 (.slice aq (flN d.seen) ks) rfl
  have f1 := free_in HE7.out.1 1
  clear HL HA HMY
  go_wp2_with fail
  have hE8 : TvAt p bk (rdCells { d with seen := some (d.seen.getD [] ++ s) } (.slice a6 1 k6) (.slice al (flN d.lasts) kl) (.slice ap d.pend.length kp)) #[.int .i64 1, .string { data := #[108, 111, 103] }, .string (str s)] (w7.setCell ⟨p, 1, none⟩ (.slice a6 1 k6)) := ⟨heap_set HE7.out.1 1 _, (Below.heap_setCell _ _ _ _ (fun e => by have := HBK.out; have := hplt; have e' : bk = p := e; omega)).trans HE7.out.2⟩
  have hT8 : Turn (p :: G) w7 (w7.setCell ⟨p, 1, none⟩ (.slice a6 1 k6)) := .set _ _ _ _ (by simp)
  have hC8 := HC7.out.besides hT8 (fun b hb => .inl hb)
  have hC83 := (HC32.out.below HB7.out).besides hT8 (fun b hb => .inl hb)
  have hC84 := (HC42.out.below HB7.out).besides hT8 (fun b hb => .inl hb)
  have hTW8 : Turn [p] W (w7.setCell ⟨p, 1, none⟩ (.slice a6 1 k6)) := (Turn.below (F := [p]) (HB2.out.trans (HB7.out.mono HB2.out.size))).trans (.set _ _ _ _ (by simp)) (fun b hb => .inl hb)
  have hz8 : (w7.setCell ⟨p, 1, none⟩ (.slice a6 1 k6)).heap.size = w7.heap.size := by simp [World.setCell]
  have HE8 := hid hE8
  have HC8 := hid hC8
  have HC83 := hid hC83
  have HC84 := hid hC84
  have HTW8 := hid hTW8
  have HG8 : Hid (∀ b ∈ p :: G, b < (w7.setCell ⟨p, 1, none⟩ (.slice a6 1 k6)).heap.size) := fun b hb => by have h1 := HHG2.out b hb; have h2 := HB7.out.size; omega
  clear hE8 hT8 hC8 hC83 hC84 hTW8 hz8 c1 f1 HC7 HC22 HC32 HC42 HE7 HB7 HCO
  generalize w7.setCell ⟨p, 1, none⟩ (.slice a6 1 k6) = w8 at *
  obtain ⟨i0, hi, hz0, hz1, hz2⟩ := info_parts infoCall12
  have hE9 : TvAt p bk (rdCells { d with seen := some (d.seen.getD [] ++ s) } (.slice a6 1 k6) (.slice al (flN d.lasts) kl) (.slice ap d.pend.length kp)) #[.int .i64 1, .string { data := #[108, 111, 103] }, .string (str s)] w8.drew := HE8.out
  refine wp_region_E (last := 12) (S := TvAt p bk (rdCells { d with seen := some (d.seen.getD [] ++ s) } (.slice a6 1 k6) (.slice al (flN d.lasts) kl) (.slice ap d.pend.length kp)) #[.int .i64 1, .string { data := #[108, 111, 103] }, .string (str s)]) (by kernel_rfl) ?_
  have hHeld := hE9
  refine wpAnyE_takeD (i := 0) (d := 77) (v := .pointer (some ⟨p, 0, none⟩)) rfl rfl rfl (by kernel_rfl) (by kernel_rfl) (by kernel_rfl) (by kernel_rfl) (fun _ _ _ _ h => h) ?h0 hHeld ?_
  case h0 => intro w hS; go_simp
  simp only [Act.put, List.setIfInBounds_toArray, List.set_cons_zero, List.set_cons_succ]
  refine wpAnyE_takeD (i := 2) (d := 79) (v := .pointer (some ⟨p, 0, none⟩)) rfl rfl rfl (by kernel_rfl) (by kernel_rfl) (by kernel_rfl) (by kernel_rfl) (fun _ _ _ _ h => h) ?h2 hHeld ?_
  case h2 => intro w hS; go_simp
  simp only [Act.put, List.setIfInBounds_toArray, List.set_cons_zero, List.set_cons_succ]
  refine wpAnyE_takeD (i := 3) (d := 80) (v := .pointer (some ⟨p, 0, none⟩)) rfl rfl rfl (by kernel_rfl) (by kernel_rfl) (by kernel_rfl) (by kernel_rfl) (fun _ _ _ _ h => h) ?h3 hHeld ?_
  case h3 => intro w hS; go_simp
  simp only [Act.put, List.setIfInBounds_toArray, List.set_cons_zero, List.set_cons_succ]
  refine wpAnyE_takeD (i := 4) (d := 81) (v := .pointer (some ⟨p, 3, none⟩)) rfl rfl rfl (by kernel_rfl) (by kernel_rfl) (by kernel_rfl) (by kernel_rfl) (fun _ _ _ _ h => h) ?h4 hHeld ?_
  case h4 => intro w hS; go_simp
  simp only [Act.put, List.setIfInBounds_toArray, List.set_cons_zero, List.set_cons_succ]
  refine wpAnyE_takeD (i := 5) (d := 82) (v := .slice ap d.pend.length kp) rfl rfl rfl (by kernel_rfl) (by kernel_rfl) (by kernel_rfl) (by kernel_rfl) (fun _ _ _ _ h => h) ?h5 hHeld ?_
  case h5 => intro w hS; have e3 := cell_in hS.1 3 (.slice ap d.pend.length kp) rfl; go_simp
  simp only [Act.put, List.setIfInBounds_toArray, List.set_cons_zero, List.set_cons_succ]
  refine wpAnyE_takeD (i := 7) (d := 84) (v := .agg #[.int .i64 1, .string { data := #[108, 111, 103] }, .string (str s)]) rfl rfl rfl (by kernel_rfl) (by kernel_rfl) (by kernel_rfl) (by kernel_rfl) (fun _ _ _ _ h => h) ?h7 hHeld ?_
  case h7 => intro w hS; have e0 := cell_in hS.2 0 (.int .i64 1) rfl; have e1 := cell_in hS.2 1 (.string { data := #[108, 111, 103] }) rfl; have e2 := cell_in hS.2 2 (.string (str s)) rfl; go_simp
  simp only [Act.put, List.setIfInBounds_toArray, List.set_cons_zero, List.set_cons_succ]
  refine dbl_append (iA := 1) (iP := 6) (iB := 8) (iQ := 9) (dA := 78) (dP := 83) (dB := 85) (dQ := 86) (x := .tmp 82) (rs0 := [1, 8]) (rsA := [6, 8]) Tryz.underlying78 hi hz0 hz1 hz2 rfl (by decide) (sv := .slice ap d.pend.length kp) (m := d.pend.length) (news := clVals d.pend) (one := [.int .i64 1, .string { data := #[108, 111, 103] }, .string (str s)])
    rfl rfl rfl rfl rfl rfl rfl rfl rfl rfl rfl rfl rfl rfl (by kernel_rfl) (by kernel_rfl) (by kernel_rfl) (by kernel_rfl) (by kernel_rfl) (by kernel_rfl) (by kernel_rfl) (by kernel_rfl) (by kernel_rfl) (by kernel_rfl) (by kernel_rfl) (by kernel_rfl)
    ?xA ?xB0 ?xB1 ?xB2 (fun u => ⟨rfl, rfl⟩) (fun u b => ⟨rfl, rfl⟩) (fun u q b => ⟨rfl, rfl⟩) ?src ?n1 rfl (clVals_one _) ?one1 (by unfold maxLen; omega) (by omega) (fun W' hb => hE9.below hb) ?_
  case xA => intro a' W'; go_simp
  case xB0 => intro W'; go_simp
  case xB1 => intro u W'; simp only [Act.put, List.setIfInBounds_toArray, List.set_cons_zero, List.set_cons_succ]; go_simp
  case xB2 => intro u v W'; simp only [Act.put, List.setIfInBounds_toArray, List.set_cons_zero, List.set_cons_succ]; go_simp
  case src => exact Cells.src (w := w8.drew) (k := 3) (show Cells (p :: G) w8.drew _ _ _ from HC84.out) (by rw [clVals_len]; omega) (by omega)
  case n1 => rw [clVals_len]; omega
  case one1 => simp [Value.oneCell']
  intro w9 uA uP uB a9 k9 hb9 hr9
  try simp only [Act.put, List.setIfInBounds_toArray, List.set_cons_zero, List.set_cons_succ]
  have HE10 := hid (hE9.below hb9)
  refine wpAnyE_one (i := 10) rfl rfl (by kernel_rfl) ?_
  go_simp
  refine ⟨HE10.out, ?_⟩
  try simp only [Act.put, List.setIfInBounds_toArray, List.set_cons_zero, List.set_cons_succ]
  refine wpAnyE_one (i := 11) rfl rfl (by kernel_rfl) ?_
  go_simp
  refine ⟨HE10.out, ?_⟩
  try simp only [Act.put, List.setIfInBounds_toArray, List.set_cons_zero, List.set_cons_succ]
  have c3 := cell_in HE10.out.1 3 (.slice ap d.pend.length kp) rfl
  have f3 := free_in HE10.out.1 3
  refine wpAnyE_last rfl rfl (by kernel_rfl) (by kernel_rfl) ?_
  go_simp
  have hb9' : Below w8.heap.size w8 w9 := ⟨hb9.os, hb9.tape, hb9.output, hb9.size, hb9.block⟩
  have HRD := hid (RdAt.mk_set (G := G) (W := w9) (p := p) (d' := { d with seen := some (d.seen.getD [] ++ s), pend := d.pend ++ [⟨false, s⟩] }) (o := 3) (v := .slice a9 (d.pend.length + 1) k9) HE10.out.1 rfl (HC8.out.below hb9') (HC83.out.below hb9') (by
    rw [clVals_snoc, List.length_append, List.length_singleton]
    exact Cells.of_row hr9 (p :: G) HG8.out) HPG.out)
  have HTT : Hid (Turn [p] W (w9.setCell ⟨p, 3, none⟩ (.slice a9 (d.pend.length + 1) k9))) := hid ((HTW8.out.trans (Turn.below (F := [p]) hb9') (fun b hb => .inl hb)).trans (.set _ _ _ _ (by simp)) (fun b hb => .inl hb))
  clear HE10 hb9 hb9' hr9 c3 f3 hHeld hE9 HE8 HC8 HC83 HC84 HTW8
  go_wp2_with fail
  refine Calls.mono (rspend_any HRD.out HLL.out) ?_
  rintro e w10 ⟨rfl, hd10, ht10⟩
  have HD10 := hid hd10
  have HT10 := hid (HTT.out.trans ht10 (fun b hb => .inl hb))
  clear hd10 ht10
  go_wp2_with fail
  go_ret
  rw [HR.out]
  exact ⟨rfl, HD10.out, HT10.out⟩
end Go.Proofs.YtmehcogaopackaaGreat
