/-
  The walks of the disk's calls: Add, Put, Sync.
-/
import Derived.Test.YtmehcogaopackaaJDisk2
import Derived.Test.YtmehcogaopackaaShelf
namespace Go.Proofs.Ytmehcogaopackaa
open Go.RowKit Go.Maps Go.WideMaps
set_option linter.unusedVariables false
set_option linter.unusedSimpArgs false
theorem blk_below {W W' : World} {k : Nat} {o : Obj} (h : W.heap[k]? = some o) (hb : Below W.heap.size W W') : W'.heap[k]? = some o := (hb.block k (Array.getElem?_eq_some_iff.1 h).1).trans h
theorem may_left {d : Ds} {n : Int} (h : d.may n = 0) (hok : d.ok) : d.fused = true → 1 ≤ d.left ∧ d.left ≤ 9223372036854775807 := by
  intro hf
  obtain ⟨_, _, _, h4, h5⟩ := hok
  refine ⟨?_, h5⟩
  unfold Ds.may Ds.off at h
  by_cases hl : d.left ≤ 0
  · rw [if_pos (by simp [hf, hl])] at h
    simp at h
  · omega
theorem After.below {W W1 W' : World} {p : Nat} {F : List Nat} {d : Ds} (hb : Below W.heap.size W W1) (h : After W1 p F d W') : After W p F d W' := h.trans (.below hb) (fun b h => .inl h)
set_option maxRecDepth 100000 in
set_option maxHeartbeats 2000000 in
theorem add_any {W : World} {p : Nat} {F : List Nat} {d : Ds} (h : DkAt W p F d) (hok : d.ok) (hpn : d.pend.length ≤ 1000000) (s : Bytes) (hs : s.length ≤ 1099511627776) :
    Calls Try.prog 28 #[.pointer (some ⟨p, 0, none⟩), .string { data := #[108, 111, 103] }, .string (str s)] W fun e w' => e = .returned (.int .i64 ((d.add s).2 : Nat)) ∧ After W p F (d.add s).1 w' := by
  have HW : Hid (Below W.heap.size W ((W.alloc (.cells #[.string { data := #[108, 111, 103] }] 9)).alloc (.cells #[.string (str s)] 9))) := ((Below.refl _ _).alloc (Nat.le_refl _) _).alloc (by simp) _
  have hn := blk_below (heap_alloc_new W (.cells #[.string { data := #[108, 111, 103] }] 9)) ((Below.refl _ _).alloc (Nat.le_refl _) (.cells #[.string (str s)] 9))
  have hq := heap_alloc_new (W.alloc (.cells #[.string { data := #[108, 111, 103] }] 9)) (.cells #[.string (str s)] 9)
  rw [World.size_alloc] at hq
  have H := hid (h.below HW.out)
  have hu : d.used ≤ 1099511627776 := by obtain ⟨h1, h2, _⟩ := hok; omega
  have hzs : (str s).size = s.length := str_size _
  have HM := hid (may_any H.out hu [108, 111, 103] (by simp) (by simp) (s.length : Int) (by omega) (by omega))
  have HL := hid (fun h0 => may_left (d := d) (n := s.length) h0 hok)
  have HN := hid hn
  have HQ := hid hq
  have hte : (str s).toList = s := by rw [ByteArray.toList_eq]; rfl
  have HA := hid (show d.add s = if d.may s.length ≠ 0 then (d, d.may s.length) else if s = [] then (d, 0) else (Ds.spend { d with seen := some (d.seen.getD [] ++ s), pend := d.pend ++ [⟨false, s⟩] }, 0) from rfl)
  clear h hn hq
  by_cases hm : d.may s.length = 0
  · rw [hm] at HM
    rw [if_neg (by simp [hm])] at HA
    have HLL := hid (HL.out hm)
    clear hm HL
    by_cases hse : s = []
    · rw [if_pos hse] at HA
      have hemp : (str s).toList.isEmpty = true := by rw [hte, hse]; rfl
      clear hse hte
      go_enter Try.func28, Try.ntmps28
      go_wp2_with fail
      refine Calls.mono HM.out ?_
      rintro e w1 ⟨rfl, hb1⟩
      have cq := cell_in (blk_below HQ.out hb1) 0 _ rfl
      have HB1 := hid (HW.out.trans (hb1.mono HW.out.size))
      have H1 := hid (H.out.below hb1)
      clear hb1
      go_wp2_with fail
      go_ret
      rw [HA.out]
      exact ⟨rfl, F, H1.out, fun _ h => .inl h, .below HB1.out⟩
    · rw [if_neg hse] at HA
      have hemp : (str s).toList.isEmpty = false := by rw [hte]; cases s with | nil => exact absurd rfl hse | cons => rfl
      clear hse hte
      go_enter Try.func28, Try.ntmps28
      go_wp2_with fail
      refine Calls.mono HM.out ?_
      rintro e w1 ⟨rfl, hb1⟩
      have cq := cell_in (blk_below HQ.out hb1) 0 _ rfl
      have HB1 := hid (HW.out.trans (hb1.mono HW.out.size))
      have H1 := hid (H.out.below hb1)
      have HT := hid (turn_add H1.out HLL.out hpn s hs (by show d.used ≤ _; exact hu) _ _ (blk_below HN.out hb1) (blk_below HQ.out hb1))
      clear hb1
      go_wp2_with fail
      refine Calls.mono HT.out ?_
      rintro e w2 ⟨rfl, F', hd', hF', ht'⟩
      go_wp2_with fail
      go_ret
      rw [HA.out]
      refine ⟨rfl, F', hd', fun b hb => ?_, (Turn.below HB1.out).trans ht' (fun b h => .inl h)⟩
      have := HB1.out.size
      rcases hF' b hb with h | h | h | h
      · exact .inl h
      · right; omega
      · right; omega
      · right; omega
  · rw [if_pos hm] at HA
    have hm1 : ((d.may s.length : Int) == 0) = false := by simpa using hm
    have hm2 : ((d.may s.length : Int) != 0) = true := by simpa using hm
    clear hm HL hte
    generalize d.may s.length = m at *
    go_enter Try.func28, Try.ntmps28
    go_wp2_with fail
    refine Calls.mono HM.out ?_
    rintro e w1 ⟨rfl, hb1⟩
    have HB1 := hid (HW.out.trans (hb1.mono HW.out.size))
    have H1 := hid (H.out.below hb1)
    clear hb1
    go_wp2_with fail
    go_ret
    rw [HA.out]
    exact ⟨rfl, F, H1.out, fun _ h => .inl h, .below HB1.out⟩
set_option maxRecDepth 100000 in
set_option maxHeartbeats 2000000 in
theorem put_any {W : World} {p : Nat} {F : List Nat} {d : Ds} (h : DkAt W p F d) (hok : d.ok) (hpn : d.pend.length ≤ 1000000) (s : Bytes) (hs : s.length ≤ 1099511627776) :
    Calls Try.prog 25 #[.pointer (some ⟨p, 0, none⟩), .string { data := #[108, 111, 103] }, .string (str s)] W fun e w' => e = .returned (.int .i64 ((d.puts s).2 : Nat)) ∧ After W p F (d.puts s).1 w' := by
  have HW : Hid (Below W.heap.size W ((W.alloc (.cells #[.string { data := #[108, 111, 103] }] 9)).alloc (.cells #[.string (str s)] 9))) := ((Below.refl _ _).alloc (Nat.le_refl _) _).alloc (by simp) _
  have hn := blk_below (heap_alloc_new W (.cells #[.string { data := #[108, 111, 103] }] 9)) ((Below.refl _ _).alloc (Nat.le_refl _) (.cells #[.string (str s)] 9))
  have hq := heap_alloc_new (W.alloc (.cells #[.string { data := #[108, 111, 103] }] 9)) (.cells #[.string (str s)] 9)
  rw [World.size_alloc] at hq
  have H := hid (h.below HW.out)
  have hu : d.used ≤ 1099511627776 := by obtain ⟨h1, h2, _⟩ := hok; omega
  have hu2 : lenO d.seen ≤ 1099511627776 := hu
  have hzs : (str s).size = s.length := str_size _
  have HM := hid (fun (W1 : World) (h1 : DkAt W1 p F d) => may_any h1 hu [108, 111, 103] (by simp) (by simp) ((s.length : Int) - (lenO d.seen : Int)) (by omega) (by omega))
  have HL := hid (fun h0 => may_left (d := d) (n := (s.length : Int) - (lenO d.seen : Int)) h0 hok)
  have HN := hid hn
  have HQ := hid hq
  have HA := hid (show d.puts s = if d.may ((s.length : Int) - lenO d.seen) ≠ 0 then (d, d.may ((s.length : Int) - lenO d.seen)) else (Ds.spend { d with seen := some s, pend := d.pend ++ [⟨true, s⟩] }, 0) from rfl)
  clear h hn
  generalize hW0 : (W.alloc (.cells #[.string { data := #[108, 111, 103] }] 9)).alloc (.cells #[.string (str s)] 9) = W0 at *
  have hlk : (Instr.lookup 83 (.map (some (H.out).choose)) (.string { data := #[108, 111, 103] }) false).run Try.prog W0.drew = .ok (.string (str (d.seen.getD []))) W0.drew := MapAt.look (W := W0.drew) (H.out).choose_spec.choose_spec.choose_spec.choose_spec.2.1
  have c1 : W0.drew.cell? ⟨p, 1, none⟩ = some (.map (some (H.out).choose)) := cell_in (w := W0.drew) (H.out).choose_spec.choose_spec.choose_spec.choose_spec.1 1 _ rfl
  generalize (H.out).choose = bs at hlk c1
  have cn : W0.drew.cell? ⟨W.heap.size, 0, none⟩ = some (.string { data := #[108, 111, 103] }) := cell_in (w := W0.drew) HN.out 0 _ rfl
  have cq := cell_in hq 0 _ rfl
  have hzo : (str (d.seen.getD [])).size = lenO d.seen := str_size _
  have hws : IntKind.i64.wrap ((s.length : Int) - (lenO d.seen : Int)) = (s.length : Int) - (lenO d.seen : Int) := IntWalk.i64_in _ (by omega)
  clear hq
  by_cases hm : d.may ((s.length : Int) - (lenO d.seen : Int)) = 0
  · rw [if_neg (by simp [hm])] at HA
    have HLL := hid (HL.out hm)
    rw [hm] at HM
    clear hm HL
    go_enter Try.func25, Try.ntmps25
    go_wp2_with fail
    go_region
    go_wp2_with fail
    refine Calls.mono (HM.out _ (by exact H.out.below ((Below.refl _ _).drew))) ?_
    rintro e w1 ⟨rfl, hb1⟩
    have hb1' : Below W0.heap.size W0 w1 := ⟨hb1.os, hb1.tape, hb1.output, hb1.size, hb1.block⟩
    have HB1 := hid (HW.out.trans (hb1'.mono HW.out.size))
    have H1 := hid (H.out.below hb1')
    have HT := hid (turn_put H1.out HLL.out hpn s hs _ _ (blk_below HN.out hb1') (blk_below HQ.out hb1'))
    clear hb1 hb1' hlk c1 cn cq hW0
    go_wp2_with fail
    refine Calls.mono HT.out ?_
    rintro e w2 ⟨rfl, F', hd', hF', ht'⟩
    go_wp2_with fail
    go_ret
    rw [HA.out]
    refine ⟨rfl, F', hd', fun b hb => ?_, (Turn.below HB1.out).trans ht' (fun b h => .inl h)⟩
    have := HB1.out.size
    rcases hF' b hb with h | h | h | h
    · exact .inl h
    · right; omega
    · right; omega
    · right; omega
  · rw [if_pos hm] at HA
    have hm1 : ((d.may ((s.length : Int) - (lenO d.seen : Int)) : Int) == 0) = false := by simpa using hm
    have hm2 : ((d.may ((s.length : Int) - (lenO d.seen : Int)) : Int) != 0) = true := by simpa using hm
    clear hm HL
    go_enter Try.func25, Try.ntmps25
    go_wp2_with fail
    go_region
    go_wp2_with fail
    refine Calls.mono (HM.out _ (by exact H.out.below ((Below.refl _ _).drew))) ?_
    rintro e w1 ⟨rfl, hb1⟩
    have hb1' : Below W0.heap.size W0 w1 := ⟨hb1.os, hb1.tape, hb1.output, hb1.size, hb1.block⟩
    have HB1 := hid (HW.out.trans (hb1'.mono HW.out.size))
    have H1 := hid (H.out.below hb1')
    clear hb1 hb1' hlk c1 cn cq hW0
    generalize d.may ((s.length : Int) - (lenO d.seen : Int)) = m at *
    go_wp2_with fail
    go_ret
    rw [HA.out]
    exact ⟨rfl, F, H1.out, fun _ h => .inl h, .below HB1.out⟩
theorem MapAt.of_owns {W : World} {b : Nat} {o : Option Bytes} (h : W.ownsMap Try.prog 9 (plainElem Try.prog 9) b 1 (DM o)) : MapAt W b o := h
set_option maxRecDepth 100000 in
set_option maxHeartbeats 2000000 in
theorem sync_any {W : World} {p : Nat} {F : List Nat} {d : Ds} (h : DkAt W p F d) (hok : d.ok) :
    Calls Try.prog 46 #[.pointer (some ⟨p, 0, none⟩)] W fun e w' => e = .returned (.int .i64 (d.sync.2 : Nat)) ∧ After W p F d.sync.1 w' := by
  have hu : d.used ≤ 1099511627776 := by obtain ⟨h1, h2, _⟩ := hok; omega
  have HM := hid (may_any h hu [45] (by simp) (by simp) 0 (by omega) (by omega))
  have HL := hid (fun h0 => may_left (d := d) (n := 0) h0 hok)
  have HA := hid (show d.sync = if d.may 0 ≠ 0 then (d, d.may 0) else (Ds.spend { d with lasts := d.seen, pend := [] }, 0) from rfl)
  have H := hid h
  clear h
  by_cases hm : d.may 0 = 0
  · rw [if_neg (by simp [hm])] at HA
    have HLL := hid (HL.out hm)
    rw [hm] at HM
    clear hm HL
    go_enter Try.func46, Try.ntmps46
    go_wp2_with fail
    refine Calls.mono HM.out ?_
    rintro e w1 ⟨rfl, hb1⟩
    have H1 := hid (H.out.below hb1)
    have HB1 := hid hb1
    clear hb1 H HM
    obtain ⟨bs, bl, vp, xs, h1, h2, h3, h4, h5, h6, h7, h8, h9, h10, h11⟩ := H1.out
    have c1 : w1.cell? ⟨p, 1, none⟩ = some (.map (some bs)) := cell_in h1 1 _ rfl
    have HC := hid (Try.maps_Clone 9 (plainElem Try.prog 9) bs 1 (DM d.seen) w1 h2)
    have hpl := h11 p h7
    have HH1 := hid h1
    have H11 := hid h11
    clear h1 h2 h3 h4 h5 h10 h11
    go_wp2_with fail
    refine Calls.mono HC.out ?_
    rintro e w2 ⟨rfl, hm2, hm3, hb2⟩
    have HH2 := hid (blk_below HH1.out hb2)
    have c2 := cell_in HH2.out 2 _ rfl
    have f2 := free_in HH2.out 2
    have c3 := cell_in HH2.out 3 _ rfl
    have f3 := free_in HH2.out 3
    have HM2 : Hid (MapAt w2 w1.heap.size d.seen) := hm2
    have HM3 : Hid (MapAt w2 bs d.seen) := hm3
    have HB2 := hid hb2
    clear hm2 hm3 hb2 HC
    have HDK : Hid (DkAt ((w2.setCell ⟨p, 2, none⟩ (.map (some w1.heap.size))).setCell ⟨p, 3, none⟩ (.slice none 0 0)) p (w1.heap.size :: F) { d with lasts := d.seen, pend := [] }) := by
      have h2 := H1.out.below HB2.out
      obtain ⟨bs', bl', vp', xs', g1, g2, g3, g4, g5, g6, g7, g8, g9, g10, g11⟩ := h2
      rw [HH2.out] at g1
      have e1 : bs = bs' := by have := Option.some.inj g1; simp [dkCells] at this; exact this.1
      have e2 : vp = vp' := by have := Option.some.inj g1; simp [dkCells] at this; exact this.2.2
      subst e1 e2
      have hsl : w1.heap.size < w2.heap.size := HM2.out.lt
      have hbsl : bs < w1.heap.size := H11.out bs h8
      have s1 : DkAt (w2.setCell ⟨p, 2, none⟩ (.map (some w1.heap.size))) p (w1.heap.size :: F) { d with lasts := d.seen } :=
        DkAt.mk_set HH2.out rfl HM3.out HM2.out g4 (PdsAt.turn (fun b hb => by simp [hb]) (fun _ _ _ _ => rfl) _ _ g5) (by omega) (by simp [h7]) (by simp [h8]) (by simp) (fun r hr => by simp [g10 r hr]) (fun b hb => by
          simp only [List.mem_cons] at hb
          rcases hb with rfl | hb
          · exact hsl
          · exact g11 b hb)
      obtain ⟨bs'', bl'', vp'', xs'', k1, k2, k3, k4, k5, k6, k7, k8, k9, k10, k11⟩ := s1
      exact DkAt.mk_set k1 rfl k2 k3 (World.ownsRow_nil _ _ _ _) rfl k6 k7 k8 k9 (fun r hr => by cases hr) k11
    have HTT : Hid (Turn F W ((w2.setCell ⟨p, 2, none⟩ (.map (some w1.heap.size))).setCell ⟨p, 3, none⟩ (.slice none 0 0))) :=
      (((Turn.below HB1.out).trans (Turn.below (F := F) HB2.out) (fun b h => .inl h)).trans (Turn.set _ p 2 _ h7) (fun b h => .inl h)).trans (Turn.set _ p 3 _ h7) (fun b h => .inl h)
    go_wp2_with fail
    refine Calls.mono (spend_any HDK.out HLL.out) ?_
    rintro e w4 ⟨rfl, hd4, ht4⟩
    go_wp2_with fail
    go_ret
    rw [HA.out]
    refine ⟨rfl, _, hd4, fun b hb => ?_, HTT.out.trans ht4 (by simp [h7])⟩
    simp only [List.mem_cons] at hb
    rcases hb with rfl | hb
    · exact .inr HB1.out.size
    · exact .inl hb
  · rw [if_pos hm] at HA
    have hm1 : ((d.may 0 : Int) == 0) = false := by simpa using hm
    have hm2 : ((d.may 0 : Int) != 0) = true := by simpa using hm
    clear hm HL
    generalize d.may 0 = m at *
    go_enter Try.func46, Try.ntmps46
    go_wp2_with fail
    refine Calls.mono HM.out ?_
    rintro e w1 ⟨rfl, hb1⟩
    have H1 := hid (H.out.below hb1)
    have HB1 := hid hb1
    clear hb1
    go_wp2_with fail
    go_ret
    rw [HA.out]
    exact ⟨rfl, F, H1.out, fun _ h => .inl h, .below HB1.out⟩
end Go.Proofs.Ytmehcogaopackaa
