/-
  JournalPlays walked: for every capacity and every script it returns true.
-/
import Derived.Test.YtmehcogaopackaaGreatGR
namespace Go.Proofs.YtmehcogaopackaaGreat
open Go.RowKit
set_option linter.unusedVariables false
set_option linter.unusedSimpArgs false
theorem cells_at {W w : World} (hb : Below W.heap.size W w) {b o : Nat} {xs : List Value} (h : ∀ k u, xs[k]? = some u → W.cell? ⟨b, o + k, none⟩ = some u) (k : Nat) (u : Value) (hu : xs[k]? = some u) : w.cell? ⟨b, o + k, none⟩ = some u := by
  have h1 := h k u hu
  exact (World.cell?_of_block (hb.block b (World.block_lt_of_cell? _ _ h1))).trans h1
set_option maxRecDepth 100000 in
set_option maxHeartbeats 16000000 in
theorem journalPlays_walk (cap : Int) (hcap : (Lit.int .i64 cap).wf = true) (l : List Ac) (v : Value) (W : World) (hv : AcsArg l v W) :
    Calls Tryz.prog 4 #[.int .i64 cap, v] W fun e W' => e = .returned (.bool true) ∧ Below W.heap.size W W' := by
  have HV := hid hv
  obtain ⟨x, lc, rfl, hlc, hmax, hx⟩ := hv
  have HX := hid hx
  unfold maxLen at hmax
  clear hx
  go_enter Tryz.func4, Tryz.ntmps4
  go_wp2_with fail
  refine Calls.mono (alive_any W) ?_
  rintro e w1 ⟨rfl, hb1⟩
  have HB1 := hid hb1
  clear hb1
  go_wp2_with fail
  refine Calls.mono (great_any l _ w1 (HV.out.below HB1.out)) ?_
  rintro e w2 ⟨g1, rfl, hg1, hb2⟩
  have HB2 := hid (HB1.out.trans (hb2.mono HB1.out.size))
  have HG1 := hid hg1
  clear hb2 hg1 HV
  cases g1
  case true =>
    as_aux_lemma =>
    go_wp2_with fail
    refine Calls.mono (alive_any w2) ?_
    rintro e w3 ⟨rfl, hb3⟩
    have HB3 := hid (HB2.out.trans (hb3.mono HB2.out.size))
    clear hb3
    go_wp2_with fail
    go_ret
    exact ⟨rfl, HB3.out⟩
  have HSC := hid (HG1.out rfl)
  clear HG1 HB1
  by_cases hc : cap < 0 ∨ 1048576 < cap
  · as_aux_lemma =>
    have HC := hid hc
    clear hc
    go_wp2_with fail
    refine Calls.mono (dnew_no cap HC.out w2) ?_
    rintro e w3 ⟨rfl, hb3⟩
    have HB3 := hid (HB2.out.trans (hb3.mono HB2.out.size))
    clear hb3
    go_wp2_with fail
    refine Calls.mono (rnew_no cap HC.out w3) ?_
    rintro e w4 ⟨rfl, hb4⟩
    have HB4 := hid (HB3.out.trans (hb4.mono HB3.out.size))
    clear hb4
    go_wp2_with fail
    go_ret
    exact ⟨rfl, HB4.out⟩
  obtain ⟨cn, rfl⟩ := Int.eq_ofNat_of_zero_le (by omega : 0 ≤ cap)
  have HCN : Hid (cn ≤ 1048576) := hid (by omega)
  clear hc hcap
  go_wp2_with fail
  refine Calls.mono (dnew_any cn HCN.out w2) ?_
  rintro e w3 ⟨p, F, rfl, hd3, hf3, hb3⟩
  have HD3 := hid hd3
  have HF3 : Hid (∀ x ∈ F, W.heap.size ≤ x) := hid (fun x hx => Nat.le_trans HB2.out.size (hf3 x hx))
  have HB3 := hid (HB2.out.trans (hb3.mono HB2.out.size))
  clear hd3 hf3 hb3 HB2
  go_wp2_with fail
  refine Calls.mono (rnew_any cn HCN.out w3 F HD3.out.lt) ?_
  rintro e w4 ⟨rfl, hr4, hb4⟩
  have HQ : Hid (W.heap.size ≤ w3.heap.size) := hid HB3.out.size
  have HD4 := hid (HD3.out.below hb4)
  have HR4 := hid hr4
  have HB4 := hid (HB3.out.trans (hb4.mono HB3.out.size))
  have HO4 := hid (dsnew_fine_ok cn HCN.out)
  clear hr4 hb4 HD3 HB3
  generalize w3.heap.size = q at *
  have HFI := hid (jOpen_fine HO4.out.1 HO4.out.2)
  generalize Ds.new cn = d0 at *
  go_wp2_with fail
  refine Calls.mono (open_journal HD4.out HO4.out.1 (by decide)) ?_
  intro e w5 hp5
  obtain ⟨vj, c0, G0, rfl, hh5, hr5, hg5, ht5, hl5⟩ := open_half hp5 HR4.out
  have HH5 := hid hh5
  have HR5 := hid hr5
  have HG5 : Hid (∀ x ∈ G0, W.heap.size ≤ x) := hid (fun x hx => by
    rcases hg5 x hx with h | h
    · exact HF3.out x h
    · exact Nat.le_trans HB4.out.size h)
  have HB5 : Hid (Below W.heap.size W w5) := hid (Turn.bel HB4.out ht5 HF3.out)
  have HO5 := hid (ropen_any HR5.out HO4.out.1 (by decide) hl5)
  clear hp5 hh5 hr5 hg5 ht5 hl5 HD4 HR4
  go_wp2_with fail
  refine Calls.mono HO5.out ?_
  intro e w6 hp6
  obtain ⟨vk, rfl, hpa, ht6⟩ := half_pair HH5.out HR5.out hp6 HB5.out.size
  have HP6 : Hid (Ply W.heap.size W w6 p q 0 G0 (jOpen d0).1 (jOpen d0).2.1 vj vk) := hid ⟨hpa, HG5.out, HFI.out.1.mono (by omega), HFI.out.2.1, fun S hS => by have := HFI.out.2.2 S hS; omega, Turn.bel HB5.out ht6 (by simpa using HQ.out)⟩
  clear hp6 hpa ht6 HO5 HH5 HR5 HG5 HB5 HB4 HF3 HFI HO4
  go_wp2_with fail
  go_loopw [8, 9, 10, 11, 12] (fun v8 v9 v10 v11 i wr => ∃ (t c : Nat) (d : Ds) (S : Option Js) (G : List Nat), i = .int .i64 t ∧ v9 = .int .i64 c ∧ v11 = .int .i64 c ∧ t ≤ l.length ∧ Hid (Ply W.heap.size W wr p q t G d S v8 v10)) (fun _ _ _ _ i _ => l.length + 1 - (intOf i).toNat)
  case atStart => exact ⟨0, c0, _, _, G0, rfl, rfl, rfl, Nat.zero_le _, HP6⟩
  case round =>
  obtain ⟨t, c, d, S, G, rfl, rfl, rfl, ht, HP⟩ := hrel
  have hl60 : l.length ≤ 60 := HSC.out.1
  have HGW := hid HP.out.2.1
  have HOK := hid HP.out.2.2.1
  have HFN := hid HP.out.2.2.2.1
  have HSL := hid HP.out.2.2.2.2.1
  have HBR := hid HP.out.2.2.2.2.2
  have HFL : Hid (∀ w : World, Below wr.heap.size wr w → Calls Tryz.prog 14 #[.pointer (some ⟨p, 0, none⟩), .pointer (some ⟨q, 0, none⟩)] w fun e W' => e = .returned (.bool true) ∧ Below w.heap.size w W') := hid (fun w hb => by
    obtain ⟨F0, k1, k2, _⟩ := HP.out.1.disks
    exact file_any (k1.below hb) (k2.below hb) HFN.out HOK.out.1.1 (by have := HOK.out.2; omega))
  clear HP6
  cases S with
  | none =>
    as_aux_lemma =>
    obtain ⟨rfl, rfl, _, _⟩ := HP.out.1
    go_wp2_with fail
    refine Calls.mono (HFL.out _ (Below.refl _ _)) ?_
    rintro e w1 ⟨rfl, hb1⟩
    have HB1 := hid hb1
    clear hb1 HFL
    go_wp2_with fail
    refine wp_region_held_drew (S := fun _ => True) (by kernel_rfl) trivial (fun hHeld => ?_)
    refine wpAnyH_takeD (i := 0) (d := 68) (v := .pointer none) rfl rfl rfl (by kernel_rfl) (by kernel_rfl) (by kernel_rfl) (fun _ _ _ _ h => h) ?h0 trivial ?_
    case h0 => intro w hS; go_simp
    try simp only [Act.put, List.setIfInBounds_toArray, List.set_cons_zero, List.set_cons_succ]
    refine wpAnyH_takeD (i := 1) (d := 69) (v := .bool false) rfl rfl rfl (by kernel_rfl) (by kernel_rfl) (by kernel_rfl) (fun _ _ _ _ h => h) ?h1 trivial ?_
    case h1 => intro w hS; go_simp
    try simp only [Act.put, List.setIfInBounds_toArray, List.set_cons_zero, List.set_cons_succ]
    refine wpAnyH_takeD (i := 2) (d := 70) (v := .bool false) rfl rfl rfl (by kernel_rfl) (by kernel_rfl) (by kernel_rfl) (fun _ _ _ _ h => h) ?h2 trivial ?_
    case h2 => intro w hS; go_simp
    try simp only [Act.put, List.setIfInBounds_toArray, List.set_cons_zero, List.set_cons_succ]
    refine wpAnyH_takeN (i := 3) (d := 71) rfl rfl (by kernel_rfl) (by kernel_rfl) (by kernel_rfl) (fun _ _ _ _ h => h) (by kernel_rfl) trivial ?_
    try simp only [Act.put, List.setIfInBounds_toArray, List.set_cons_zero, List.set_cons_succ]
    refine wpAnyH_takeN (i := 4) (d := 72) rfl rfl (by kernel_rfl) (by kernel_rfl) (by kernel_rfl) (fun _ _ _ _ h => h) (by kernel_rfl) trivial ?_
    try simp only [Act.put, List.setIfInBounds_toArray, List.set_cons_zero, List.set_cons_succ]
    refine wpAnyH_takeN (i := 5) (d := 73) rfl rfl (by kernel_rfl) (by kernel_rfl) (by kernel_rfl) (fun _ _ _ _ h => h) (by kernel_rfl) trivial ?_
    try simp only [Act.put, List.setIfInBounds_toArray, List.set_cons_zero, List.set_cons_succ]
    refine wpAnyH_takeN (i := 6) (d := 74) rfl rfl (by kernel_rfl) (by kernel_rfl) (by kernel_rfl) (fun _ _ _ _ h => h) (by kernel_rfl) trivial ?_
    try simp only [Act.put, List.setIfInBounds_toArray, List.set_cons_zero, List.set_cons_succ]
    refine wpAnyH_takeN (i := 7) (d := 75) rfl rfl (by kernel_rfl) (by kernel_rfl) (by kernel_rfl) (fun _ _ _ _ h => h) (by kernel_rfl) trivial ?_
    try simp only [Act.put, List.setIfInBounds_toArray, List.set_cons_zero, List.set_cons_succ]
    refine wpAnyH_takeN (i := 8) (d := 76) rfl rfl (by kernel_rfl) (by kernel_rfl) (by kernel_rfl) (fun _ _ _ _ h => h) (by kernel_rfl) trivial ?_
    try simp only [Act.put, List.setIfInBounds_toArray, List.set_cons_zero, List.set_cons_succ]
    refine wpAnyH_takeN (i := 9) (d := 77) rfl rfl (by kernel_rfl) (by kernel_rfl) (by kernel_rfl) (fun _ _ _ _ h => h) (by kernel_rfl) trivial ?_
    try simp only [Act.put, List.setIfInBounds_toArray, List.set_cons_zero, List.set_cons_succ]
    refine wpAnyH_takeN (i := 10) (d := 78) rfl rfl (by kernel_rfl) (by kernel_rfl) (by kernel_rfl) (fun _ _ _ _ h => h) (by kernel_rfl) trivial ?_
    try simp only [Act.put, List.setIfInBounds_toArray, List.set_cons_zero, List.set_cons_succ]
    refine wpAnyH_takeD (i := 11) (d := 79) (v := .bool false) rfl rfl rfl (by kernel_rfl) (by kernel_rfl) (by kernel_rfl) (fun _ _ _ _ h => h) ?h11 trivial ?_
    case h11 => intro w hS; go_simp
    try simp only [Act.put, List.setIfInBounds_toArray, List.set_cons_zero, List.set_cons_succ]
    refine wpAnyH_done (by kernel_rfl) ?_ _
    try simp only [Act.put, List.setIfInBounds_toArray, List.set_cons_zero, List.set_cons_succ]
    have HB3 : Hid (Below wr.heap.size wr w1.drew) := hid HB1.out.drew
    clear HB1
    generalize w1.drew = w2 at *
    have HBW3 : Hid (Below W.heap.size W w2) := hid (HBR.out.trans (HB3.out.mono HBR.out.size))
    by_cases hlt : ¬ t < l.length
    · as_aux_lemma =>
      obtain rfl : t = l.length := by omega
      go_wp2_with fail
      go_ret
      exact ⟨rfl, HBW3.out⟩
    have hlt := Decidable.not_not.1 hlt
    obtain ⟨b, off, rfl, hj⟩ := HX.out (by omega)
    obtain ⟨vc0, vl0, harg, hcell⟩ := hj t hlt
    have hsc := HSC.out.2 _ (List.getElem_mem hlt)
    have hft := AcFit.of harg hsc.1 hsc.2.1 hsc.2.2.1 hsc.2.2.2
    generalize l[t] = a at *
    obtain ⟨ac0, cc0, rfl⟩ := harg.1.form
    obtain ⟨al0, cl0, rfl⟩ := harg.2.1.form
    have HFT := hid hft
    have HAR := hid harg
    have HRG := hid (show -9223372036854775808 ≤ a.n ∧ a.n ≤ 9223372036854775807 from harg.2.2.2.2.2.2.2.2.2.2.2)
    have HCEL := hid hcell
    have HA : Hid (∀ k u, (a.vals (.slice ac0 a.log.conf.length cc0) (.slice al0 a.log.l.length cl0))[k]? = some u → w2.cell? ⟨b, off + t * 11 + k, none⟩ = some u) := hid (fun k u hu => cells_at HBW3.out HCEL.out k u hu)
    have x0 := HA.out 0 _ rfl
    rw [Nat.add_zero] at x0
    have x1 := HA.out 1 _ rfl
    have x2 := HA.out 2 _ rfl
    have x3 := HA.out 3 _ rfl
    have x4 := HA.out 4 _ rfl
    have x5 := HA.out 5 _ rfl
    have x6 := HA.out 6 _ rfl
    have x7 := HA.out 7 _ rfl
    have x8 := HA.out 8 _ rfl
    have x9 := HA.out 9 _ rfl
    have x10 := HA.out 10 _ rfl
    clear hj hcell harg hft hsc
    go_upto_region 18 with fail
    have hbA : Below w2.heap.size w2 (w2.alloc (.cells (a.vals (.slice ac0 a.log.conf.length cc0) (.slice al0 a.log.l.length cl0)).toArray 59)) := (Below.refl _ _).alloc (Nat.le_refl _) _
    have HKA := hid (heap_alloc_new w2 (.cells (a.vals (.slice ac0 a.log.conf.length cc0) (.slice al0 a.log.l.length cl0)).toArray 59))
    have HPA := hid (HP.out.1.below (HB3.out.trans (hbA.mono HB3.out.size)))
    have HBWA := hid (HBW3.out.trans (hbA.mono HBW3.out.size))
    have HGL : Hid (w2.heap.size ∉ G ∧ w2.heap.size ≠ q ∧ w2.heap.size ∉ [p]) := hid (by
      have h := HP.out.1.lt
      obtain ⟨F0, kd, _, kf⟩ := HP.out.1.disks
      have hs := HB3.out.size
      refine ⟨fun hm => by have := h.1 _ hm; omega, by have := h.2.2; omega, fun hm => ?_⟩
      have := h.1 _ (kf _ kd.mem)
      rw [List.mem_singleton.1 hm] at hs
      omega)
    clear hbA x0 x1 x2 x3 x4 x5 x6 x7 x8 x9 x10 HA
    rw [show w2.alloc (.cells #[.int .i64 a.kind, .int .i64 a.n, .int .u64 (a.fr : Nat), .int .u64 (a.hard.term : Nat), .int .i64 a.hard.vote, .int .u64 (a.hard.life : Nat), .int .u64 (a.log.base : Nat), .int .u64 (a.log.bterm : Nat), .slice ac0 a.log.conf.length cc0, .slice al0 a.log.l.length cl0, .string (str a.image)] 59) = w2.alloc (.cells (a.vals (.slice ac0 a.log.conf.length cc0) (.slice al0 a.log.l.length cl0)).toArray 59) from rfl]
    generalize w2.alloc (.cells (a.vals (.slice ac0 a.log.conf.length cc0) (.slice al0 a.log.l.length cl0)).toArray 59) = wa at *
    generalize w2.heap.size = g at *
    clear HBW3 HBR HB3
    have e0 : wa.cell? ⟨g, 0, none⟩ = some (.int .i64 a.kind) := cell_in HKA.out 0 _ rfl
    have e1 : wa.cell? ⟨g, 1, none⟩ = some (.int .i64 a.n) := cell_in HKA.out 1 _ rfl
    by_cases hk1 : a.kind = 1
    · as_aux_lemma =>
      have hk := hid hk1
      clear hk1
      have b1 : (a.kind == 1) = true := by rw [hk.out]; rfl
      have p1 : decide (a.kind = 1) = true := by rw [hk.out]; rfl
      have b2 : (a.kind == 2) = false := by rw [hk.out]; rfl
      have p2 : decide (a.kind = 2) = false := by rw [hk.out]; rfl
      have b3 : (a.kind == 3) = false := by rw [hk.out]; rfl
      have p3 : decide (a.kind = 3) = false := by rw [hk.out]; rfl
      have b4 : (a.kind == 4) = false := by rw [hk.out]; rfl
      have p4 : decide (a.kind = 4) = false := by rw [hk.out]; rfl
      have b5 : (a.kind == 5) = false := by rw [hk.out]; rfl
      have p5 : decide (a.kind = 5) = false := by rw [hk.out]; rfl
      have HN : Hid (Ply W.heap.size W wa p q (t + 1) G d none (.pointer none) (.pointer none)) := hid ⟨HPA.out, HGW.out, HOK.out.mono (by omega), HFN.out, (fun S' h => by cases h), HBWA.out⟩
      go_wp2_with fail
      go_roundw
      case rel => exact ⟨t + 1, 0, d, none, G, by go_num, rfl, rfl, by omega, HN⟩
      case measure => simp [intOf]; omega
    by_cases hk2 : a.kind = 2
    · as_aux_lemma =>
      have hk := hid hk2
      clear hk1 hk2
      have b1 : (a.kind == 1) = false := by rw [hk.out]; rfl
      have p1 : decide (a.kind = 1) = false := by rw [hk.out]; rfl
      have b2 : (a.kind == 2) = true := by rw [hk.out]; rfl
      have p2 : decide (a.kind = 2) = true := by rw [hk.out]; rfl
      have b3 : (a.kind == 3) = false := by rw [hk.out]; rfl
      have p3 : decide (a.kind = 3) = false := by rw [hk.out]; rfl
      have b4 : (a.kind == 4) = false := by rw [hk.out]; rfl
      have p4 : decide (a.kind = 4) = false := by rw [hk.out]; rfl
      have b5 : (a.kind == 5) = false := by rw [hk.out]; rfl
      have p5 : decide (a.kind = 5) = false := by rw [hk.out]; rfl
      have HN : Hid (Ply W.heap.size W wa p q (t + 1) G d none (.pointer none) (.pointer none)) := hid ⟨HPA.out, HGW.out, HOK.out.mono (by omega), HFN.out, (fun S' h => by cases h), HBWA.out⟩
      go_wp2_with fail
      go_roundw
      case rel => exact ⟨t + 1, 0, d, none, G, by go_num, rfl, rfl, by omega, HN⟩
      case measure => simp [intOf]; omega
    by_cases hk3 : a.kind = 3
    · as_aux_lemma =>
      have hk := hid hk3
      clear hk1 hk2 hk3
      have b1 : (a.kind == 1) = false := by rw [hk.out]; rfl
      have p1 : decide (a.kind = 1) = false := by rw [hk.out]; rfl
      have b2 : (a.kind == 2) = false := by rw [hk.out]; rfl
      have p2 : decide (a.kind = 2) = false := by rw [hk.out]; rfl
      have b3 : (a.kind == 3) = true := by rw [hk.out]; rfl
      have p3 : decide (a.kind = 3) = true := by rw [hk.out]; rfl
      have b4 : (a.kind == 4) = false := by rw [hk.out]; rfl
      have p4 : decide (a.kind = 4) = false := by rw [hk.out]; rfl
      have b5 : (a.kind == 5) = false := by rw [hk.out]; rfl
      have p5 : decide (a.kind = 5) = false := by rw [hk.out]; rfl
      have HN : Hid (Ply W.heap.size W wa p q (t + 1) G d none (.pointer none) (.pointer none)) := hid ⟨HPA.out, HGW.out, HOK.out.mono (by omega), HFN.out, (fun S' h => by cases h), HBWA.out⟩
      go_wp2_with fail
      go_roundw
      case rel => exact ⟨t + 1, 0, d, none, G, by go_num, rfl, rfl, by omega, HN⟩
      case measure => simp [intOf]; omega
    by_cases hk4 : a.kind = 4
    · as_aux_lemma =>
      have hk := hid hk4
      clear hk1 hk2 hk3 hk4
      have b1 : (a.kind == 1) = false := by rw [hk.out]; rfl
      have p1 : decide (a.kind = 1) = false := by rw [hk.out]; rfl
      have b2 : (a.kind == 2) = false := by rw [hk.out]; rfl
      have p2 : decide (a.kind = 2) = false := by rw [hk.out]; rfl
      have b3 : (a.kind == 3) = false := by rw [hk.out]; rfl
      have p3 : decide (a.kind = 3) = false := by rw [hk.out]; rfl
      have b4 : (a.kind == 4) = true := by rw [hk.out]; rfl
      have p4 : decide (a.kind = 4) = true := by rw [hk.out]; rfl
      have b5 : (a.kind == 5) = false := by rw [hk.out]; rfl
      have p5 : decide (a.kind = 5) = false := by rw [hk.out]; rfl
      obtain ⟨F1, hdk, hstep⟩ := HPA.out.one
      have HDK := hid hdk
      have HST := hid hstep
      have HFG : Hid (p ∈ F1) := hid hdk.mem
      have HFO := hid (HOK.out.fuse a.n HRG.out)
      clear hdk hstep
      go_wp2_with fail
      refine Calls.mono (fuse_any HDK.out a.n) ?_
      rintro e w4 ⟨rfl, hd4, ht4⟩
      obtain ⟨G4, hp4, hg4, htt4⟩ := HST.out w4 _ ⟨F1, hd4, fun x hx => .inl hx, ht4.mono (by simp [HFG.out])⟩
      obtain ⟨K4, hr4, hk4, hs4⟩ := hp4.two
      have HR4 := hid hr4
      have HS4 := hid hs4
      have HG4 : Hid (∀ x ∈ G4, W.heap.size ≤ x) := hid (fun x hx => by
        rcases hg4 x hx with h | h
        · exact HGW.out x h
        · exact Nat.le_trans HBWA.out.size h)
      have HB4 : Hid (Below W.heap.size W w4) := hid (Turn.bel HBWA.out htt4 HGW.out)
      have e1' : w4.cell? ⟨g, 1, none⟩ = some (.int .i64 a.n) := cell_in ((ht4.block (Array.getElem?_eq_some_iff.1 HKA.out).1 HGL.out.2.2).trans HKA.out) 1 _ rfl
      clear hd4 ht4 hp4 hg4 htt4 hr4 hk4 hs4 e0 e1
      go_wp2_with fail
      refine Calls.mono (rfuse_any HR4.out a.n) ?_
      rintro e w5 ⟨rfl, hd5, ht5⟩
      have HN : Hid (Ply W.heap.size W w5 p q (t + 1) G4 (d.fuse a.n) none (.pointer none) (.pointer none)) := hid ⟨HS4.out w5 hd5 ht5, HG4.out, HFO.out.mono (by omega), HFN.out.fuse _, (fun S' h => by have := HSL.out S' h; omega), Turn.bel HB4.out ht5 (by simpa using HQ.out)⟩
      clear hd5 ht5 e1'
      go_wp2_with fail
      go_roundw
      case rel => exact ⟨t + 1, c, _, _, G4, by go_num, rfl, rfl, by omega, HN⟩
      case measure => simp [intOf]; omega
    by_cases hk5 : a.kind = 5
    · as_aux_lemma =>
      have hk := hid hk5
      clear hk1 hk2 hk3 hk4 hk5
      have b1 : (a.kind == 1) = false := by rw [hk.out]; rfl
      have p1 : decide (a.kind = 1) = false := by rw [hk.out]; rfl
      have b2 : (a.kind == 2) = false := by rw [hk.out]; rfl
      have p2 : decide (a.kind = 2) = false := by rw [hk.out]; rfl
      have b3 : (a.kind == 3) = false := by rw [hk.out]; rfl
      have p3 : decide (a.kind = 3) = false := by rw [hk.out]; rfl
      have b4 : (a.kind == 4) = false := by rw [hk.out]; rfl
      have p4 : decide (a.kind = 4) = false := by rw [hk.out]; rfl
      have b5 : (a.kind == 5) = true := by rw [hk.out]; rfl
      have p5 : decide (a.kind = 5) = true := by rw [hk.out]; rfl
      have hpd : PairAt W.heap.size wa.drew p q G d none (.pointer none) (.pointer none) := HPA.out.below (Below.refl _ _).drew
      obtain ⟨F1, hdk, hrd, hFG⟩ := hpd.disks
      have HDK := hid hdk
      have HRD := hid hrd
      have HF1 : Hid (∀ x ∈ F1, W.heap.size ≤ x) := hid (fun x hx => HGW.out x (hFG x hx))
      have HFGG := hid hFG
      have HBD : Hid (Below W.heap.size W wa.drew) := hid HBWA.out.drew
      have hE0 : wa.drew.heap[g]? = some (.cells (a.vals (.slice ac0 a.log.conf.length cc0) (.slice al0 a.log.l.length cl0)).toArray 59) := HKA.out
      have HCO : Hid (∀ W' : World, W'.heap[g]? = some (.cells (a.vals (.slice ac0 a.log.conf.length cc0) (.slice al0 a.log.l.length cl0)).toArray 59) → W'.cell? ⟨g, 1, none⟩ = some (.int .i64 a.n)) := hid (fun W' h => cell_in h 1 _ rfl)
      have HCOK := hid (HOK.out.crash HFN.out a.n)
      have HCFN := hid (HFN.out.crash a.n)
      clear hpd hdk hrd hFG e1
      go_wp2_with fail
      go_region_held3 (fun W' => W'.cell? ⟨g, 1, none⟩ = some (.int .i64 a.n)) (first | exact HCO.out _ (by assumption))
        (first
        | (go_at_call 21; refine Calls.mono (crash_any HDK.out HOK.out HFN.out (by omega) a.n HRG.out) ?_; rintro e w4 ⟨rfl, ha4⟩; obtain ⟨F4, hd4, hf4, ht4⟩ := ha4; have hE1 := (ht4.block (Array.getElem?_eq_some_iff.1 hE0).1 (fun hm => HGL.out.1 (HFGG.out _ hm))).trans hE0; have HR4 := hid (HRD.out.besides ht4 hf4); have HD4 := hid hd4; have HF4 : Hid (∀ x ∈ F4, W.heap.size ≤ x) := hid (fun x hx => (hf4 x hx).elim (HF1.out x) (fun h => Nat.le_trans HBD.out.size h)); have HB4 := hid (Turn.bel HBD.out ht4 HF1.out); clear hd4 hf4 ht4)
        | (go_at_call 22; refine Calls.mono (rcrash_any HR4.out HD4.out.lt HOK.out HFN.out (by omega) a.n HRG.out) ?_; rintro e w5 ⟨rfl, hr5, ht5⟩; have hE2 := (ht5.block (Array.getElem?_eq_some_iff.1 hE1).1 (by simpa using HGL.out.2.1)).trans hE1; have HRX := hid hr5; have HBX := hid (Turn.bel HB4.out ht5 (by simpa using HQ.out)); have HDX := hid (HD4.out.turn ht5 (by obtain ⟨_, _, _, _, _, _, _, h⟩ := hr5; simpa using h)); have HFW := HF4; clear hr5 ht5))
      clear hE0 hE1 hE2 HD4 HR4 HB4
      have HOX := HCOK
      have HFX := HCFN
      generalize (d.crash a.n).2 = ce at *
      generalize (d.crash a.n).1 = dX at *
      have HFI := hid (jOpen_fine HOX.out HFX.out)
      go_wp2_with fail
      refine Calls.mono (open_journal HDX.out HOX.out (by omega)) ?_
      intro e w6 hp6
      obtain ⟨vj6, c6, G6, rfl, hh6, hr6, hg6, ht6, hl6⟩ := open_half hp6 HRX.out
      have HH6 := hid hh6
      have HR6 := hid hr6
      have HG6 : Hid (∀ x ∈ G6, W.heap.size ≤ x) := hid (fun x hx => by
        rcases hg6 x hx with h | h
        · exact HFW.out x h
        · exact Nat.le_trans HBX.out.size h)
      have HB6 : Hid (Below W.heap.size W w6) := hid (Turn.bel HBX.out ht6 HFW.out)
      have HO6 := hid (ropen_any HR6.out HOX.out (by omega) hl6)
      clear hp6 hh6 hr6 hg6 ht6 hl6 HDX HRX
      go_wp2_with fail
      refine Calls.mono HO6.out ?_
      intro e w7 hp7
      obtain ⟨vk7, rfl, hpa7, ht7⟩ := half_pair HH6.out HR6.out hp7 HB6.out.size
      have HN : Hid (Ply W.heap.size W w7 p q (t + 1) G6 (jOpen dX).1 (jOpen dX).2.1 vj6 vk7) := hid ⟨hpa7, HG6.out, HFI.out.1.mono (by omega), HFI.out.2.1, (fun S' h => by have := HFI.out.2.2 S' h; omega), Turn.bel HB6.out ht7 (by simpa using HQ.out)⟩
      clear hp7 hpa7 ht7 HO6 HH6 HR6 HB6 HG6
      go_wp2_with fail
      go_roundw
      case rel => exact ⟨t + 1, c6, _, _, G6, by go_num, rfl, rfl, by omega, HN⟩
      case measure => simp [intOf]; omega
    · as_aux_lemma =>
      have hk : Hid (¬ a.kind = 1 ∧ ¬ a.kind = 2 ∧ ¬ a.kind = 3 ∧ ¬ a.kind = 4 ∧ ¬ a.kind = 5) := hid ⟨hk1, hk2, hk3, hk4, hk5⟩
      clear hk1 hk2 hk3 hk4 hk5
      have b1 : (a.kind == 1) = false := by simp only [beq_eq_false_iff_ne, ne_eq]; exact hk.out.1
      have p1 : decide (a.kind = 1) = false := by exact decide_eq_false (hk.out.1)
      have b2 : (a.kind == 2) = false := by simp only [beq_eq_false_iff_ne, ne_eq]; exact hk.out.2.1
      have p2 : decide (a.kind = 2) = false := by exact decide_eq_false (hk.out.2.1)
      have b3 : (a.kind == 3) = false := by simp only [beq_eq_false_iff_ne, ne_eq]; exact hk.out.2.2.1
      have p3 : decide (a.kind = 3) = false := by exact decide_eq_false (hk.out.2.2.1)
      have b4 : (a.kind == 4) = false := by simp only [beq_eq_false_iff_ne, ne_eq]; exact hk.out.2.2.2.1
      have p4 : decide (a.kind = 4) = false := by exact decide_eq_false (hk.out.2.2.2.1)
      have b5 : (a.kind == 5) = false := by simp only [beq_eq_false_iff_ne, ne_eq]; exact hk.out.2.2.2.2
      have p5 : decide (a.kind = 5) = false := by exact decide_eq_false (hk.out.2.2.2.2)
      obtain ⟨F1, hdk, hrd, hFG⟩ := HPA.out.disks
      have HDX := hid hdk
      have HRX := hid hrd
      have HFW : Hid (∀ x ∈ F1, W.heap.size ≤ x) := hid (fun x hx => HGW.out x (hFG x hx))
      have HBX := HBWA
      have HOX := HOK
      have HFX := HFN
      clear hdk hrd hFG
      obtain ⟨dX, hdX⟩ : ∃ y : Ds, y = d := ⟨_, rfl⟩
      subst hdX
      have HFI := hid (jOpen_fine HOX.out HFX.out)
      go_wp2_with fail
      refine Calls.mono (open_journal HDX.out HOX.out (by omega)) ?_
      intro e w6 hp6
      obtain ⟨vj6, c6, G6, rfl, hh6, hr6, hg6, ht6, hl6⟩ := open_half hp6 HRX.out
      have HH6 := hid hh6
      have HR6 := hid hr6
      have HG6 : Hid (∀ x ∈ G6, W.heap.size ≤ x) := hid (fun x hx => by
        rcases hg6 x hx with h | h
        · exact HFW.out x h
        · exact Nat.le_trans HBX.out.size h)
      have HB6 : Hid (Below W.heap.size W w6) := hid (Turn.bel HBX.out ht6 HFW.out)
      have HO6 := hid (ropen_any HR6.out HOX.out (by omega) hl6)
      clear hp6 hh6 hr6 hg6 ht6 hl6 HDX HRX
      go_wp2_with fail
      refine Calls.mono HO6.out ?_
      intro e w7 hp7
      obtain ⟨vk7, rfl, hpa7, ht7⟩ := half_pair HH6.out HR6.out hp7 HB6.out.size
      have HN : Hid (Ply W.heap.size W w7 p q (t + 1) G6 (jOpen dX).1 (jOpen dX).2.1 vj6 vk7) := hid ⟨hpa7, HG6.out, HFI.out.1.mono (by omega), HFI.out.2.1, (fun S' h => by have := HFI.out.2.2 S' h; omega), Turn.bel HB6.out ht7 (by simpa using HQ.out)⟩
      clear hp7 hpa7 ht7 HO6 HH6 HR6 HB6 HG6
      go_wp2_with fail
      go_roundw
      case rel => exact ⟨t + 1, c6, _, _, G6, by go_num, rfl, rfl, by omega, HN⟩
      case measure => simp [intOf]; omega
  | some S =>
    as_aux_lemma =>
    obtain ⟨j, k, rfl, rfl, hbo, hkW⟩ := HP.out.1
    have HBO := hid hbo
    have HKW := hid hkW
    clear hkW
    go_wp2_with fail
    refine Calls.mono (HFL.out _ (Below.refl _ _)) ?_
    rintro e w1 ⟨rfl, hb1⟩
    have HB1 := hid hb1
    obtain ⟨vc, vl, hk, hcv, hcl⟩ := (hbo.2.below hb1).cells
    obtain ⟨ac, cc, rfl⟩ := hcv.form
    obtain ⟨al, cl, rfl⟩ := hcl.form
    have HJ1 : Hid (JnAt w1.drew j p G d S) := hid ((hbo.1.below hb1).below (Below.refl _ _).drew)
    have HSN := hid hbo.1.ok.2
    have HCC : Hid (S.log.conf.length ≤ 1000000) := hid (by have := members_len _ hbo.1.ok.1.2.2.2.2.2.1; omega)
    have HCV : Hid (Cells [] w1.drew (.slice ac S.log.conf.length cc) S.log.conf.length (intVals S.log.conf)) := hid (hcv.sub (by simp))
    have HCL : Hid (Cells [] w1.drew (.slice al S.log.l.length cl) S.log.l.length (enVals S.log.l)) := hid (hcl.sub (by simp))
    have hE0 : w1.drew.heap[k]? = some (.cells (rjCells q S (.slice ac S.log.conf.length cc) (.slice al S.log.l.length cl)) 54) := hk
    have HCO : Hid (∀ W' : World, W'.heap[k]? = some (.cells (rjCells q S (.slice ac S.log.conf.length cc) (.slice al S.log.l.length cl)) 54) → W'.cell? ⟨k, 1, none⟩ = some (.int .u64 (S.hard.term : Nat)) ∧ W'.cell? ⟨k, 2, none⟩ = some (.int .i64 S.hard.vote) ∧ W'.cell? ⟨k, 3, none⟩ = some (.int .u64 (S.hard.life : Nat)) ∧ W'.cell? ⟨k, 4, none⟩ = some (.int .u64 (S.log.base : Nat)) ∧ W'.cell? ⟨k, 5, none⟩ = some (.int .u64 (S.log.bterm : Nat)) ∧ W'.cell? ⟨k, 6, none⟩ = some (.slice ac S.log.conf.length cc) ∧ W'.cell? ⟨k, 7, none⟩ = some (.slice al S.log.l.length cl) ∧ W'.cell? ⟨k, 8, none⟩ = some (.string (str S.image))) := hid (fun W' h => ⟨cell_in h 1 _ rfl, cell_in h 2 _ rfl, cell_in h 3 _ rfl, cell_in h 4 _ rfl, cell_in h 5 _ rfl, cell_in h 6 _ rfl, cell_in h 7 _ rfl, cell_in h 8 _ rfl⟩)
    clear hbo hk hcv hcl hb1 HFL
    go_wp2_with fail
    go_region_held3 (fun W' => W'.cell? ⟨k, 1, none⟩ = some (.int .u64 (S.hard.term : Nat)) ∧ W'.cell? ⟨k, 2, none⟩ = some (.int .i64 S.hard.vote) ∧ W'.cell? ⟨k, 3, none⟩ = some (.int .u64 (S.hard.life : Nat)) ∧ W'.cell? ⟨k, 4, none⟩ = some (.int .u64 (S.log.base : Nat)) ∧ W'.cell? ⟨k, 5, none⟩ = some (.int .u64 (S.log.bterm : Nat)) ∧ W'.cell? ⟨k, 6, none⟩ = some (.slice ac S.log.conf.length cc) ∧ W'.cell? ⟨k, 7, none⟩ = some (.slice al S.log.l.length cl) ∧ W'.cell? ⟨k, 8, none⟩ = some (.string (str S.image))) (first | exact HCO.out _ (by assumption))
      (first
      | (go_at_call 16; refine Calls.mono (state_any HJ1.out) ?_; rintro e w2 ⟨vc2, vl2, rfl, hr1, hr2, hb2⟩; have hE1 := blk_below hE0 hb2; have HB2 : Hid (Below wr.heap.size wr w2) := hid (HB1.out.drew.trans (hb2.mono HB1.out.size)); have HCV2 := hid (HCV.out.below hb2); have HCL2 := hid (HCL.out.below hb2); have HR1 := hid (Cells.of_row hr1 [] (by simp)); have HR2 := hid (Cells.of_row hr2 [] (by simp)); clear hr1 hr2 hb2)
      | (go_at_call 15; refine Calls.mono (rsame_eq (S := S) HR1.out HCV2.out HR2.out HCL2.out HCC.out HSN.out) ?_; rintro e w3 ⟨rfl, hb3⟩; have hE2 := blk_below hE1 hb3; have HB3 : Hid (Below wr.heap.size wr w3) := hid (HB2.out.trans (hb3.mono HB2.out.size)); clear hb3))
    clear hE0 hE1 hE2 HCO HJ1 HCV HCL HCV2 HCL2 HR1 HR2 HB1 HB2
    have HBW3 : Hid (Below W.heap.size W w3) := hid (HBR.out.trans (HB3.out.mono HBR.out.size))
    by_cases hlt : ¬ t < l.length
    · as_aux_lemma =>
      obtain rfl : t = l.length := by omega
      go_wp2_with fail
      go_ret
      exact ⟨rfl, HBW3.out⟩
    have hlt := Decidable.not_not.1 hlt
    obtain ⟨b, off, rfl, hj⟩ := HX.out (by omega)
    obtain ⟨vc0, vl0, harg, hcell⟩ := hj t hlt
    have hsc := HSC.out.2 _ (List.getElem_mem hlt)
    have hft := AcFit.of harg hsc.1 hsc.2.1 hsc.2.2.1 hsc.2.2.2
    generalize l[t] = a at *
    obtain ⟨ac0, cc0, rfl⟩ := harg.1.form
    obtain ⟨al0, cl0, rfl⟩ := harg.2.1.form
    have HFT := hid hft
    have HAR := hid harg
    have HRG := hid (show -9223372036854775808 ≤ a.n ∧ a.n ≤ 9223372036854775807 from harg.2.2.2.2.2.2.2.2.2.2.2)
    have HCEL := hid hcell
    have HA : Hid (∀ k u, (a.vals (.slice ac0 a.log.conf.length cc0) (.slice al0 a.log.l.length cl0))[k]? = some u → w3.cell? ⟨b, off + t * 11 + k, none⟩ = some u) := hid (fun k u hu => cells_at HBW3.out HCEL.out k u hu)
    have x0 := HA.out 0 _ rfl
    rw [Nat.add_zero] at x0
    have x1 := HA.out 1 _ rfl
    have x2 := HA.out 2 _ rfl
    have x3 := HA.out 3 _ rfl
    have x4 := HA.out 4 _ rfl
    have x5 := HA.out 5 _ rfl
    have x6 := HA.out 6 _ rfl
    have x7 := HA.out 7 _ rfl
    have x8 := HA.out 8 _ rfl
    have x9 := HA.out 9 _ rfl
    have x10 := HA.out 10 _ rfl
    clear hj hcell harg hft hsc
    go_upto_region 18 with fail
    have hbA : Below w3.heap.size w3 (w3.alloc (.cells (a.vals (.slice ac0 a.log.conf.length cc0) (.slice al0 a.log.l.length cl0)).toArray 59)) := (Below.refl _ _).alloc (Nat.le_refl _) _
    have HKA := hid (heap_alloc_new w3 (.cells (a.vals (.slice ac0 a.log.conf.length cc0) (.slice al0 a.log.l.length cl0)).toArray 59))
    have HPA := hid (HP.out.1.below (HB3.out.trans (hbA.mono HB3.out.size)))
    have HBWA := hid (HBW3.out.trans (hbA.mono HBW3.out.size))
    have HGL : Hid (w3.heap.size ∉ G ∧ w3.heap.size ≠ q ∧ w3.heap.size ∉ [p]) := hid (by
      have h := HP.out.1.lt
      obtain ⟨F0, kd, _, kf⟩ := HP.out.1.disks
      have hs := HB3.out.size
      refine ⟨fun hm => by have := h.1 _ hm; omega, by have := h.2.2; omega, fun hm => ?_⟩
      have := h.1 _ (kf _ kd.mem)
      rw [List.mem_singleton.1 hm] at hs
      omega)
    clear hbA x0 x1 x2 x3 x4 x5 x6 x7 x8 x9 x10 HA
    rw [show w3.alloc (.cells #[.int .i64 a.kind, .int .i64 a.n, .int .u64 (a.fr : Nat), .int .u64 (a.hard.term : Nat), .int .i64 a.hard.vote, .int .u64 (a.hard.life : Nat), .int .u64 (a.log.base : Nat), .int .u64 (a.log.bterm : Nat), .slice ac0 a.log.conf.length cc0, .slice al0 a.log.l.length cl0, .string (str a.image)] 59) = w3.alloc (.cells (a.vals (.slice ac0 a.log.conf.length cc0) (.slice al0 a.log.l.length cl0)).toArray 59) from rfl]
    generalize w3.alloc (.cells (a.vals (.slice ac0 a.log.conf.length cc0) (.slice al0 a.log.l.length cl0)).toArray 59) = wa at *
    generalize w3.heap.size = g at *
    clear HBW3 HBR HB3
    have e0 : wa.cell? ⟨g, 0, none⟩ = some (.int .i64 a.kind) := cell_in HKA.out 0 _ rfl
    have e1 : wa.cell? ⟨g, 1, none⟩ = some (.int .i64 a.n) := cell_in HKA.out 1 _ rfl
    by_cases hk1 : a.kind = 1
    · as_aux_lemma =>
      have hk := hid hk1
      clear hk1
      have b1 : (a.kind == 1) = true := by rw [hk.out]; rfl
      have p1 : decide (a.kind = 1) = true := by rw [hk.out]; rfl
      have b2 : (a.kind == 2) = false := by rw [hk.out]; rfl
      have p2 : decide (a.kind = 2) = false := by rw [hk.out]; rfl
      have b3 : (a.kind == 3) = false := by rw [hk.out]; rfl
      have p3 : decide (a.kind = 3) = false := by rw [hk.out]; rfl
      have b4 : (a.kind == 4) = false := by rw [hk.out]; rfl
      have p4 : decide (a.kind = 4) = false := by rw [hk.out]; rfl
      have b5 : (a.kind == 5) = false := by rw [hk.out]; rfl
      have p5 : decide (a.kind = 5) = false := by rw [hk.out]; rfl
      have f2 := cell_in HKA.out 2 _ rfl
      have f3 := cell_in HKA.out 3 _ rfl
      have f4 := cell_in HKA.out 4 _ rfl
      have f5 := cell_in HKA.out 5 _ rfl
      have f6 := cell_in HKA.out 6 _ rfl
      have f7 := cell_in HKA.out 7 _ rfl
      have f8 := cell_in HKA.out 8 _ rfl
      have f9 := cell_in HKA.out 9 _ rfl
      have f10 := cell_in HKA.out 10 _ rfl
      have HBOA : Hid (Both wa j p k q G d S) := hid (by
        obtain ⟨j', k', e1', e2', h1, h2⟩ := HPA.out
        simp only [Value.pointer.injEq, Option.some.injEq, Addr.mk.injEq, and_true] at e1' e2'
        subst e1' e2'
        exact h1)
      have HSL1 := hid (HSL.out S rfl)
      have hcG : ∀ x ∈ k :: q :: G, W.heap.size ≤ x := fun x hx => by
        rcases List.mem_cons.1 hx with rfl | hx
        · exact HKW.out
        · rcases List.mem_cons.1 hx with rfl | hx
          · exact HQ.out
          · exact HGW.out x hx
      have HCG := hid hcG
      have HACT := hid (act_any HBOA.out HOK.out (by omega) a _ _ (HAR.out.1.toG HBWA.out hcG) (HAR.out.2.1.toG HBWA.out hcG) HFT.out (by have := HSL1.out; omega))
      have HJK := hid (jAct_ok (S := S) HOK.out HFN.out a)
      clear hcG
      go_wp2_with fail
      refine Calls.mono HACT.out ?_
      rintro e w4 ⟨rfl, G4, hbo4, hg4, ht4⟩
      have HN : Hid (Ply W.heap.size W w4 p q (t + 1) G4 (jAct d S a).1 (some (jAct d S a).2) (.pointer (some ⟨j, 0, none⟩)) (.pointer (some ⟨k, 0, none⟩))) := hid ⟨⟨j, k, rfl, rfl, hbo4, HKW.out⟩, (fun x hx => by
        rcases hg4 x hx with h | h
        · exact HGW.out x h
        · exact Nat.le_trans HBWA.out.size h), HJK.out.1.mono (by omega), HJK.out.2.1, (fun S' h => by
        cases h
        have h1 := HJK.out.2.2
        have h2 := HFT.out.2.2.2.2.2.2.2.1
        have h3 := HSL1.out
        omega), Turn.bel HBWA.out ht4 HCG.out⟩
      clear hbo4 hg4 ht4 HACT
      go_wp2_with fail
      go_roundw
      case rel => exact ⟨t + 1, 0, _, _, G4, by go_num, rfl, rfl, by omega, HN⟩
      case measure => simp [intOf]; omega
    by_cases hk2 : a.kind = 2
    · as_aux_lemma =>
      have hk := hid hk2
      clear hk1 hk2
      have b1 : (a.kind == 1) = false := by rw [hk.out]; rfl
      have p1 : decide (a.kind = 1) = false := by rw [hk.out]; rfl
      have b2 : (a.kind == 2) = true := by rw [hk.out]; rfl
      have p2 : decide (a.kind = 2) = true := by rw [hk.out]; rfl
      have b3 : (a.kind == 3) = false := by rw [hk.out]; rfl
      have p3 : decide (a.kind = 3) = false := by rw [hk.out]; rfl
      have b4 : (a.kind == 4) = false := by rw [hk.out]; rfl
      have p4 : decide (a.kind = 4) = false := by rw [hk.out]; rfl
      have b5 : (a.kind == 5) = false := by rw [hk.out]; rfl
      have p5 : decide (a.kind = 5) = false := by rw [hk.out]; rfl
      have f2 := cell_in HKA.out 2 _ rfl
      have f3 := cell_in HKA.out 3 _ rfl
      have f4 := cell_in HKA.out 4 _ rfl
      have f5 := cell_in HKA.out 5 _ rfl
      have f6 := cell_in HKA.out 6 _ rfl
      have f7 := cell_in HKA.out 7 _ rfl
      have f8 := cell_in HKA.out 8 _ rfl
      have f9 := cell_in HKA.out 9 _ rfl
      have f10 := cell_in HKA.out 10 _ rfl
      have HBOA : Hid (Both wa j p k q G d S) := hid (by
        obtain ⟨j', k', e1', e2', h1, h2⟩ := HPA.out
        simp only [Value.pointer.injEq, Option.some.injEq, Addr.mk.injEq, and_true] at e1' e2'
        subst e1' e2'
        exact h1)
      have HSL1 := hid (HSL.out S rfl)
      have hcG : ∀ x ∈ k :: q :: G, W.heap.size ≤ x := fun x hx => by
        rcases List.mem_cons.1 hx with rfl | hx
        · exact HKW.out
        · rcases List.mem_cons.1 hx with rfl | hx
          · exact HQ.out
          · exact HGW.out x hx
      have HCG := hid hcG
      have HACT := hid (act_any HBOA.out HOK.out (by omega) a _ _ (HAR.out.1.toG HBWA.out hcG) (HAR.out.2.1.toG HBWA.out hcG) HFT.out (by have := HSL1.out; omega))
      have HJK := hid (jAct_ok (S := S) HOK.out HFN.out a)
      clear hcG
      go_wp2_with fail
      refine Calls.mono HACT.out ?_
      rintro e w4 ⟨rfl, G4, hbo4, hg4, ht4⟩
      have HN : Hid (Ply W.heap.size W w4 p q (t + 1) G4 (jAct d S a).1 (some (jAct d S a).2) (.pointer (some ⟨j, 0, none⟩)) (.pointer (some ⟨k, 0, none⟩))) := hid ⟨⟨j, k, rfl, rfl, hbo4, HKW.out⟩, (fun x hx => by
        rcases hg4 x hx with h | h
        · exact HGW.out x h
        · exact Nat.le_trans HBWA.out.size h), HJK.out.1.mono (by omega), HJK.out.2.1, (fun S' h => by
        cases h
        have h1 := HJK.out.2.2
        have h2 := HFT.out.2.2.2.2.2.2.2.1
        have h3 := HSL1.out
        omega), Turn.bel HBWA.out ht4 HCG.out⟩
      clear hbo4 hg4 ht4 HACT
      go_wp2_with fail
      go_roundw
      case rel => exact ⟨t + 1, 0, _, _, G4, by go_num, rfl, rfl, by omega, HN⟩
      case measure => simp [intOf]; omega
    by_cases hk3 : a.kind = 3
    · as_aux_lemma =>
      have hk := hid hk3
      clear hk1 hk2 hk3
      have b1 : (a.kind == 1) = false := by rw [hk.out]; rfl
      have p1 : decide (a.kind = 1) = false := by rw [hk.out]; rfl
      have b2 : (a.kind == 2) = false := by rw [hk.out]; rfl
      have p2 : decide (a.kind = 2) = false := by rw [hk.out]; rfl
      have b3 : (a.kind == 3) = true := by rw [hk.out]; rfl
      have p3 : decide (a.kind = 3) = true := by rw [hk.out]; rfl
      have b4 : (a.kind == 4) = false := by rw [hk.out]; rfl
      have p4 : decide (a.kind = 4) = false := by rw [hk.out]; rfl
      have b5 : (a.kind == 5) = false := by rw [hk.out]; rfl
      have p5 : decide (a.kind = 5) = false := by rw [hk.out]; rfl
      have f2 := cell_in HKA.out 2 _ rfl
      have f3 := cell_in HKA.out 3 _ rfl
      have f4 := cell_in HKA.out 4 _ rfl
      have f5 := cell_in HKA.out 5 _ rfl
      have f6 := cell_in HKA.out 6 _ rfl
      have f7 := cell_in HKA.out 7 _ rfl
      have f8 := cell_in HKA.out 8 _ rfl
      have f9 := cell_in HKA.out 9 _ rfl
      have f10 := cell_in HKA.out 10 _ rfl
      have HBOA : Hid (Both wa j p k q G d S) := hid (by
        obtain ⟨j', k', e1', e2', h1, h2⟩ := HPA.out
        simp only [Value.pointer.injEq, Option.some.injEq, Addr.mk.injEq, and_true] at e1' e2'
        subst e1' e2'
        exact h1)
      have HSL1 := hid (HSL.out S rfl)
      have hcG : ∀ x ∈ k :: q :: G, W.heap.size ≤ x := fun x hx => by
        rcases List.mem_cons.1 hx with rfl | hx
        · exact HKW.out
        · rcases List.mem_cons.1 hx with rfl | hx
          · exact HQ.out
          · exact HGW.out x hx
      have HCG := hid hcG
      have HACT := hid (act_any HBOA.out HOK.out (by omega) a _ _ (HAR.out.1.toG HBWA.out hcG) (HAR.out.2.1.toG HBWA.out hcG) HFT.out (by have := HSL1.out; omega))
      have HJK := hid (jAct_ok (S := S) HOK.out HFN.out a)
      clear hcG
      go_wp2_with fail
      refine Calls.mono HACT.out ?_
      rintro e w4 ⟨rfl, G4, hbo4, hg4, ht4⟩
      have HN : Hid (Ply W.heap.size W w4 p q (t + 1) G4 (jAct d S a).1 (some (jAct d S a).2) (.pointer (some ⟨j, 0, none⟩)) (.pointer (some ⟨k, 0, none⟩))) := hid ⟨⟨j, k, rfl, rfl, hbo4, HKW.out⟩, (fun x hx => by
        rcases hg4 x hx with h | h
        · exact HGW.out x h
        · exact Nat.le_trans HBWA.out.size h), HJK.out.1.mono (by omega), HJK.out.2.1, (fun S' h => by
        cases h
        have h1 := HJK.out.2.2
        have h2 := HFT.out.2.2.2.2.2.2.2.1
        have h3 := HSL1.out
        omega), Turn.bel HBWA.out ht4 HCG.out⟩
      clear hbo4 hg4 ht4 HACT
      go_wp2_with fail
      go_roundw
      case rel => exact ⟨t + 1, 0, _, _, G4, by go_num, rfl, rfl, by omega, HN⟩
      case measure => simp [intOf]; omega
    by_cases hk4 : a.kind = 4
    · as_aux_lemma =>
      have hk := hid hk4
      clear hk1 hk2 hk3 hk4
      have b1 : (a.kind == 1) = false := by rw [hk.out]; rfl
      have p1 : decide (a.kind = 1) = false := by rw [hk.out]; rfl
      have b2 : (a.kind == 2) = false := by rw [hk.out]; rfl
      have p2 : decide (a.kind = 2) = false := by rw [hk.out]; rfl
      have b3 : (a.kind == 3) = false := by rw [hk.out]; rfl
      have p3 : decide (a.kind = 3) = false := by rw [hk.out]; rfl
      have b4 : (a.kind == 4) = true := by rw [hk.out]; rfl
      have p4 : decide (a.kind = 4) = true := by rw [hk.out]; rfl
      have b5 : (a.kind == 5) = false := by rw [hk.out]; rfl
      have p5 : decide (a.kind = 5) = false := by rw [hk.out]; rfl
      obtain ⟨F1, hdk, hstep⟩ := HPA.out.one
      have HDK := hid hdk
      have HST := hid hstep
      have HFG : Hid (p ∈ F1) := hid hdk.mem
      have HFO := hid (HOK.out.fuse a.n HRG.out)
      clear hdk hstep
      go_wp2_with fail
      refine Calls.mono (fuse_any HDK.out a.n) ?_
      rintro e w4 ⟨rfl, hd4, ht4⟩
      obtain ⟨G4, hp4, hg4, htt4⟩ := HST.out w4 _ ⟨F1, hd4, fun x hx => .inl hx, ht4.mono (by simp [HFG.out])⟩
      obtain ⟨K4, hr4, hk4, hs4⟩ := hp4.two
      have HR4 := hid hr4
      have HS4 := hid hs4
      have HG4 : Hid (∀ x ∈ G4, W.heap.size ≤ x) := hid (fun x hx => by
        rcases hg4 x hx with h | h
        · exact HGW.out x h
        · exact Nat.le_trans HBWA.out.size h)
      have HB4 : Hid (Below W.heap.size W w4) := hid (Turn.bel HBWA.out htt4 HGW.out)
      have e1' : w4.cell? ⟨g, 1, none⟩ = some (.int .i64 a.n) := cell_in ((ht4.block (Array.getElem?_eq_some_iff.1 HKA.out).1 HGL.out.2.2).trans HKA.out) 1 _ rfl
      clear hd4 ht4 hp4 hg4 htt4 hr4 hk4 hs4 e0 e1
      go_wp2_with fail
      refine Calls.mono (rfuse_any HR4.out a.n) ?_
      rintro e w5 ⟨rfl, hd5, ht5⟩
      have HN : Hid (Ply W.heap.size W w5 p q (t + 1) G4 (d.fuse a.n) (some S) (.pointer (some ⟨j, 0, none⟩)) (.pointer (some ⟨k, 0, none⟩))) := hid ⟨HS4.out w5 hd5 ht5, HG4.out, HFO.out.mono (by omega), HFN.out.fuse _, (fun S' h => by have := HSL.out S' h; omega), Turn.bel HB4.out ht5 (by simpa using HQ.out)⟩
      clear hd5 ht5 e1'
      go_wp2_with fail
      go_roundw
      case rel => exact ⟨t + 1, c, _, _, G4, by go_num, rfl, rfl, by omega, HN⟩
      case measure => simp [intOf]; omega
    by_cases hk5 : a.kind = 5
    · as_aux_lemma =>
      have hk := hid hk5
      clear hk1 hk2 hk3 hk4 hk5
      have b1 : (a.kind == 1) = false := by rw [hk.out]; rfl
      have p1 : decide (a.kind = 1) = false := by rw [hk.out]; rfl
      have b2 : (a.kind == 2) = false := by rw [hk.out]; rfl
      have p2 : decide (a.kind = 2) = false := by rw [hk.out]; rfl
      have b3 : (a.kind == 3) = false := by rw [hk.out]; rfl
      have p3 : decide (a.kind = 3) = false := by rw [hk.out]; rfl
      have b4 : (a.kind == 4) = false := by rw [hk.out]; rfl
      have p4 : decide (a.kind = 4) = false := by rw [hk.out]; rfl
      have b5 : (a.kind == 5) = true := by rw [hk.out]; rfl
      have p5 : decide (a.kind = 5) = true := by rw [hk.out]; rfl
      have hpd : PairAt W.heap.size wa.drew p q G d (some S) (.pointer (some ⟨j, 0, none⟩)) (.pointer (some ⟨k, 0, none⟩)) := HPA.out.below (Below.refl _ _).drew
      obtain ⟨F1, hdk, hrd, hFG⟩ := hpd.disks
      have HDK := hid hdk
      have HRD := hid hrd
      have HF1 : Hid (∀ x ∈ F1, W.heap.size ≤ x) := hid (fun x hx => HGW.out x (hFG x hx))
      have HFGG := hid hFG
      have HBD : Hid (Below W.heap.size W wa.drew) := hid HBWA.out.drew
      have hE0 : wa.drew.heap[g]? = some (.cells (a.vals (.slice ac0 a.log.conf.length cc0) (.slice al0 a.log.l.length cl0)).toArray 59) := HKA.out
      have HCO : Hid (∀ W' : World, W'.heap[g]? = some (.cells (a.vals (.slice ac0 a.log.conf.length cc0) (.slice al0 a.log.l.length cl0)).toArray 59) → W'.cell? ⟨g, 1, none⟩ = some (.int .i64 a.n)) := hid (fun W' h => cell_in h 1 _ rfl)
      have HCOK := hid (HOK.out.crash HFN.out a.n)
      have HCFN := hid (HFN.out.crash a.n)
      clear hpd hdk hrd hFG e1
      go_wp2_with fail
      go_region_held3 (fun W' => W'.cell? ⟨g, 1, none⟩ = some (.int .i64 a.n)) (first | exact HCO.out _ (by assumption))
        (first
        | (go_at_call 21; refine Calls.mono (crash_any HDK.out HOK.out HFN.out (by omega) a.n HRG.out) ?_; rintro e w4 ⟨rfl, ha4⟩; obtain ⟨F4, hd4, hf4, ht4⟩ := ha4; have hE1 := (ht4.block (Array.getElem?_eq_some_iff.1 hE0).1 (fun hm => HGL.out.1 (HFGG.out _ hm))).trans hE0; have HR4 := hid (HRD.out.besides ht4 hf4); have HD4 := hid hd4; have HF4 : Hid (∀ x ∈ F4, W.heap.size ≤ x) := hid (fun x hx => (hf4 x hx).elim (HF1.out x) (fun h => Nat.le_trans HBD.out.size h)); have HB4 := hid (Turn.bel HBD.out ht4 HF1.out); clear hd4 hf4 ht4)
        | (go_at_call 22; refine Calls.mono (rcrash_any HR4.out HD4.out.lt HOK.out HFN.out (by omega) a.n HRG.out) ?_; rintro e w5 ⟨rfl, hr5, ht5⟩; have hE2 := (ht5.block (Array.getElem?_eq_some_iff.1 hE1).1 (by simpa using HGL.out.2.1)).trans hE1; have HRX := hid hr5; have HBX := hid (Turn.bel HB4.out ht5 (by simpa using HQ.out)); have HDX := hid (HD4.out.turn ht5 (by obtain ⟨_, _, _, _, _, _, _, h⟩ := hr5; simpa using h)); have HFW := HF4; clear hr5 ht5))
      clear hE0 hE1 hE2 HD4 HR4 HB4
      have HOX := HCOK
      have HFX := HCFN
      generalize (d.crash a.n).2 = ce at *
      generalize (d.crash a.n).1 = dX at *
      have HFI := hid (jOpen_fine HOX.out HFX.out)
      go_wp2_with fail
      refine Calls.mono (open_journal HDX.out HOX.out (by omega)) ?_
      intro e w6 hp6
      obtain ⟨vj6, c6, G6, rfl, hh6, hr6, hg6, ht6, hl6⟩ := open_half hp6 HRX.out
      have HH6 := hid hh6
      have HR6 := hid hr6
      have HG6 : Hid (∀ x ∈ G6, W.heap.size ≤ x) := hid (fun x hx => by
        rcases hg6 x hx with h | h
        · exact HFW.out x h
        · exact Nat.le_trans HBX.out.size h)
      have HB6 : Hid (Below W.heap.size W w6) := hid (Turn.bel HBX.out ht6 HFW.out)
      have HO6 := hid (ropen_any HR6.out HOX.out (by omega) hl6)
      clear hp6 hh6 hr6 hg6 ht6 hl6 HDX HRX
      go_wp2_with fail
      refine Calls.mono HO6.out ?_
      intro e w7 hp7
      obtain ⟨vk7, rfl, hpa7, ht7⟩ := half_pair HH6.out HR6.out hp7 HB6.out.size
      have HN : Hid (Ply W.heap.size W w7 p q (t + 1) G6 (jOpen dX).1 (jOpen dX).2.1 vj6 vk7) := hid ⟨hpa7, HG6.out, HFI.out.1.mono (by omega), HFI.out.2.1, (fun S' h => by have := HFI.out.2.2 S' h; omega), Turn.bel HB6.out ht7 (by simpa using HQ.out)⟩
      clear hp7 hpa7 ht7 HO6 HH6 HR6 HB6 HG6
      go_wp2_with fail
      go_roundw
      case rel => exact ⟨t + 1, c6, _, _, G6, by go_num, rfl, rfl, by omega, HN⟩
      case measure => simp [intOf]; omega
    · as_aux_lemma =>
      have hk : Hid (¬ a.kind = 1 ∧ ¬ a.kind = 2 ∧ ¬ a.kind = 3 ∧ ¬ a.kind = 4 ∧ ¬ a.kind = 5) := hid ⟨hk1, hk2, hk3, hk4, hk5⟩
      clear hk1 hk2 hk3 hk4 hk5
      have b1 : (a.kind == 1) = false := by simp only [beq_eq_false_iff_ne, ne_eq]; exact hk.out.1
      have p1 : decide (a.kind = 1) = false := by exact decide_eq_false (hk.out.1)
      have b2 : (a.kind == 2) = false := by simp only [beq_eq_false_iff_ne, ne_eq]; exact hk.out.2.1
      have p2 : decide (a.kind = 2) = false := by exact decide_eq_false (hk.out.2.1)
      have b3 : (a.kind == 3) = false := by simp only [beq_eq_false_iff_ne, ne_eq]; exact hk.out.2.2.1
      have p3 : decide (a.kind = 3) = false := by exact decide_eq_false (hk.out.2.2.1)
      have b4 : (a.kind == 4) = false := by simp only [beq_eq_false_iff_ne, ne_eq]; exact hk.out.2.2.2.1
      have p4 : decide (a.kind = 4) = false := by exact decide_eq_false (hk.out.2.2.2.1)
      have b5 : (a.kind == 5) = false := by simp only [beq_eq_false_iff_ne, ne_eq]; exact hk.out.2.2.2.2
      have p5 : decide (a.kind = 5) = false := by exact decide_eq_false (hk.out.2.2.2.2)
      obtain ⟨F1, hdk, hrd, hFG⟩ := HPA.out.disks
      have HDX := hid hdk
      have HRX := hid hrd
      have HFW : Hid (∀ x ∈ F1, W.heap.size ≤ x) := hid (fun x hx => HGW.out x (hFG x hx))
      have HBX := HBWA
      have HOX := HOK
      have HFX := HFN
      clear hdk hrd hFG
      obtain ⟨dX, hdX⟩ : ∃ y : Ds, y = d := ⟨_, rfl⟩
      subst hdX
      have HFI := hid (jOpen_fine HOX.out HFX.out)
      go_wp2_with fail
      refine Calls.mono (open_journal HDX.out HOX.out (by omega)) ?_
      intro e w6 hp6
      obtain ⟨vj6, c6, G6, rfl, hh6, hr6, hg6, ht6, hl6⟩ := open_half hp6 HRX.out
      have HH6 := hid hh6
      have HR6 := hid hr6
      have HG6 : Hid (∀ x ∈ G6, W.heap.size ≤ x) := hid (fun x hx => by
        rcases hg6 x hx with h | h
        · exact HFW.out x h
        · exact Nat.le_trans HBX.out.size h)
      have HB6 : Hid (Below W.heap.size W w6) := hid (Turn.bel HBX.out ht6 HFW.out)
      have HO6 := hid (ropen_any HR6.out HOX.out (by omega) hl6)
      clear hp6 hh6 hr6 hg6 ht6 hl6 HDX HRX
      go_wp2_with fail
      refine Calls.mono HO6.out ?_
      intro e w7 hp7
      obtain ⟨vk7, rfl, hpa7, ht7⟩ := half_pair HH6.out HR6.out hp7 HB6.out.size
      have HN : Hid (Ply W.heap.size W w7 p q (t + 1) G6 (jOpen dX).1 (jOpen dX).2.1 vj6 vk7) := hid ⟨hpa7, HG6.out, HFI.out.1.mono (by omega), HFI.out.2.1, (fun S' h => by have := HFI.out.2.2 S' h; omega), Turn.bel HB6.out ht7 (by simpa using HQ.out)⟩
      clear hp7 hpa7 ht7 HO6 HH6 HR6 HB6 HG6
      go_wp2_with fail
      go_roundw
      case rel => exact ⟨t + 1, c6, _, _, G6, by go_num, rfl, rfl, by omega, HN⟩
      case measure => simp [intOf]; omega
end Go.Proofs.YtmehcogaopackaaGreat
