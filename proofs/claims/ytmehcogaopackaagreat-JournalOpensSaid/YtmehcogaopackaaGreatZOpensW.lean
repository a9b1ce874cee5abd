/-
  JournalOpens walked: for every text it returns true.
-/
import Derived.Test.YtmehcogaopackaaGreatGR
import Derived.Test.YtmehcogaopackaaGreatJAlive
namespace Go.Proofs.YtmehcogaopackaaGreat
open Go.RowKit
set_option linter.unusedVariables false
set_option linter.unusedSimpArgs false
def opD1 (b : Bytes) : Ds := ⟨262144, some b, none, [⟨true, b⟩], false, 0⟩
def opD2 (b : Bytes) : Ds := ⟨262144, some b, some b, [], false, 0⟩
theorem op_puts {b : Bytes} (h : b.length ≤ 65536) : (Ds.new 262144).puts b = (opD1 b, 0) := by
  have hm : (Ds.new 262144).may ((b.length : Int) - lenO none) = 0 := by
    unfold Ds.may Ds.off Ds.new Ds.used lenO
    simp
    omega
  show (if (Ds.new 262144).may ((b.length : Int) - lenO none) ≠ 0 then _ else _) = _
  rw [if_neg (by rw [hm]; simp)]
  rfl
theorem op_sync {b : Bytes} (h : b.length ≤ 65536) : (opD1 b).sync = (opD2 b, 0) := by
  have hm : (opD1 b).may 0 = 0 := by
    unfold Ds.may Ds.off opD1 Ds.used lenO
    simp
    omega
  show (if (opD1 b).may 0 ≠ 0 then _ else _) = _
  rw [if_neg (by rw [hm]; simp)]
  rfl
theorem op_ok {b : Bytes} (h : b.length ≤ 65536) : (opD1 b).ok ∧ (opD2 b).Ok 0 ∧ (opD2 b).Fine := by
  refine ⟨⟨by show 262144 ≤ _; omega, by show b.length ≤ 262144; omega, by show (0 : Nat) ≤ _; omega, by show (_ : Int) ≤ 0; omega, by show (0 : Int) ≤ _; omega⟩, ⟨⟨by show 262144 ≤ _; omega, by show b.length ≤ 262144; omega, by show b.length ≤ 262144; omega, by show (_ : Int) ≤ 0; omega, by show (0 : Int) ≤ _; omega⟩, Nat.le_refl _⟩, rfl, by simp [opD2], fun j => ?_⟩
  show lenO (fullGo (some b) (([] : List Pd).take j)) ≤ 262144
  rw [List.take_nil]
  show b.length ≤ 262144
  omega
theorem new_ok262 : (Ds.new 262144).ok := ⟨by show 262144 ≤ _; omega, by show (0 : Nat) ≤ _; omega, by show (0 : Nat) ≤ _; omega, by show (_ : Int) ≤ 0; omega, by show (0 : Int) ≤ _; omega⟩
set_option maxRecDepth 100000 in
set_option maxHeartbeats 8000000 in
theorem journalOpens_walk (b0 : ByteArray) (hb0 : b0.size ≤ maxLen) (W : World) :
    Calls Tryz.prog 3 #[.string b0] W fun e W' => e = .returned (.bool true) ∧ Below W.heap.size W W' := by
  obtain ⟨b, hb⟩ : ∃ b : Bytes, b0 = str b := ⟨_, (str_of b0).symm⟩
  subst hb
  have hsz : (str b).size = b.length := str_size _
  go_enter Tryz.func3, Tryz.ntmps3
  go_wp2_with fail
  refine Calls.mono (alive_any W) ?_
  rintro e w1 ⟨rfl, hb1⟩
  have HB1 := hid hb1
  clear hb1
  by_cases hl : 65536 < b.length
  · as_aux_lemma =>
    have hli : (65536 : Int) < (b.length : Int) := by omega
    go_wp2_with fail
    go_ret
    exact ⟨rfl, HB1.out⟩
  have hli : ¬ ((65536 : Int) < (b.length : Int)) := by omega
  have hl' : b.length ≤ 65536 := by omega
  go_wp2_with fail
  refine Calls.mono (show Calls Tryz.prog 6 #[.int .i64 262144] w1 _ from dnew_any 262144 (by decide) w1) ?_
  rintro e w2 ⟨p, F, rfl, hd2, hf2, hb2⟩
  have HD2 := hid hd2
  have HF2 : Hid (∀ x ∈ F, W.heap.size ≤ x) := hid (fun x hx => Nat.le_trans HB1.out.size (hf2 x hx))
  have HB2 := hid (HB1.out.trans (hb2.mono HB1.out.size))
  clear hd2 hf2 hb2
  go_wp2_with fail
  refine Calls.mono (show Calls Tryz.prog 7 #[.int .i64 262144] w2 _ from rnew_any 262144 (by decide) w2 F HD2.out.lt) ?_
  rintro e w3 ⟨rfl, hr3, hb3⟩
  have HQ : Hid (W.heap.size ≤ w2.heap.size) := hid HB2.out.size
  have HD3 := hid (HD2.out.below hb3)
  have HR3 := hid hr3
  have HB3 := hid (HB2.out.trans (hb3.mono HB2.out.size))
  clear hr3 hb3 HD2
  generalize w2.heap.size = q at *
  have HP3 := hid (put_any HD3.out new_ok262 (by decide) b (by omega))
  rw [op_puts hl'] at HP3
  clear hl
  go_wp2_with fail
  refine Calls.mono HP3.out ?_
  rintro e w4 ⟨rfl, ha4⟩
  obtain ⟨F4, hd4, hf4, ht4⟩ := ha4
  have HD4 := hid hd4
  have HF4 : Hid (∀ x ∈ F4, W.heap.size ≤ x) := hid (fun x hx => by
    rcases hf4 x hx with h | h
    · exact HF2.out x h
    · exact Nat.le_trans HB3.out.size h)
  have HR4 := hid (HR3.out.besides ht4 hf4)
  have HB4 : Hid (Below W.heap.size W w4) := hid (HB3.out.trans (ht4.toBelow HB3.out.size HF2.out))
  clear hd4 hf4 ht4 HD3 HP3 HR3
  have HS4 := hid (sync_any HD4.out (op_ok hl').1)
  rw [op_sync hl'] at HS4
  go_wp2_with fail
  refine Calls.mono HS4.out ?_
  rintro e w5 ⟨rfl, ha5⟩
  obtain ⟨F5, hd5, hf5, ht5⟩ := ha5
  have HD5 := hid hd5
  have HF5 : Hid (∀ x ∈ F5, W.heap.size ≤ x) := hid (fun x hx => by
    rcases hf5 x hx with h | h
    · exact HF4.out x h
    · exact Nat.le_trans HB4.out.size h)
  have HR5 := hid (HR4.out.besides ht5 hf5)
  have HB5 : Hid (Below W.heap.size W w5) := hid (HB4.out.trans (ht5.toBelow HB4.out.size HF4.out))
  clear hd5 hf5 ht5 HD4 HS4 HR4
  have HT5 := hid (rturn_put HR5.out new_ok262 HD5.out.lt (by decide) b (by omega))
  rw [op_puts hl'] at HT5
  have hqn : q ∉ F5 := by obtain ⟨_, _, _, _, _, _, _, h⟩ := HR5.out; exact h
  have HQN := hid hqn
  clear hqn
  go_wp2_with fail
  refine Calls.mono HT5.out ?_
  rintro e w6 ⟨rfl, hr6, ht6⟩
  have HR6 := hid hr6
  have HD6 := hid (HD5.out.turn ht6 (by simpa using HQN.out))
  have HB6 : Hid (Below W.heap.size W w6) := hid (HB5.out.trans (ht6.toBelow HB5.out.size (by simpa using HQ.out)))
  clear hr6 ht6 HT5 HR5 HD5
  have HS6 := hid (rsync_any HR6.out (op_ok hl').1)
  rw [op_sync hl'] at HS6
  go_wp2_with fail
  refine Calls.mono HS6.out ?_
  rintro e w7 ⟨rfl, hr7, ht7⟩
  have HR7 := hid hr7
  have HD7 := hid (HD6.out.turn ht7 (by simpa using HQN.out))
  have HB7 : Hid (Below W.heap.size W w7) := hid (HB6.out.trans (ht7.toBelow HB6.out.size (by simpa using HQ.out)))
  clear hr7 ht7 HS6 HR6 HD6
  have HOK := hid (op_ok hl').2
  have HFI := hid (jOpen_fine HOK.out.1 HOK.out.2)
  clear hl'
  generalize opD2 b = d at *
  go_wp2_with fail
  refine Calls.mono (open_journal HD7.out HOK.out.1 (by decide)) ?_
  intro e w8 hp8
  obtain ⟨vj, c, G, rfl, hh8, hr8, hg8, ht8, hl8⟩ := open_half hp8 HR7.out
  have HH8 := hid hh8
  have HR8 := hid hr8
  have HG8 : Hid (∀ x ∈ G, W.heap.size ≤ x) := hid (fun x hx => by
    rcases hg8 x hx with h | h
    · exact HF5.out x h
    · exact Nat.le_trans HB7.out.size h)
  have HB8 : Hid (Below W.heap.size W w8) := hid (HB7.out.trans (ht8.toBelow HB7.out.size HF5.out))
  have HO8 := hid (ropen_any HR8.out HOK.out.1 (by decide) hl8)
  clear hp8 hh8 hr8 hg8 ht8 hl8 HD7 HR7
  go_wp2_with fail
  refine Calls.mono HO8.out ?_
  intro e w9 hp9
  obtain ⟨vk, rfl, hpa, ht9⟩ := half_pair HH8.out HR8.out hp9 HB8.out.size
  have HPA := hid hpa
  have HB9 : Hid (Below W.heap.size W w9) := hid (HB8.out.trans (ht9.toBelow HB8.out.size (by simpa using HQ.out)))
  clear hp9 hpa ht9 HO8 HH8 HR8
  generalize jOpen d = r at *
  obtain ⟨d', S, c'⟩ := r
  simp only at HPA HFI
  have HFL : Hid (∀ w : World, Below w9.heap.size w9 w → Calls Tryz.prog 14 #[.pointer (some ⟨p, 0, none⟩), .pointer (some ⟨q, 0, none⟩)] w fun e W' => e = .returned (.bool true) ∧ Below w.heap.size w W') := hid (fun w hb => by
    obtain ⟨F0, k1, k2, _⟩ := HPA.out.disks
    exact file_any (k1.below hb) (k2.below hb) HFI.out.2.1 HFI.out.1.1.1 (by have := HFI.out.1.2; omega))
  go_upto_region 11 with fail
  cases S with
  | none =>
    as_aux_lemma =>
    obtain ⟨rfl, rfl, _, _⟩ := HPA.out
    go_wp2_with fail
    refine wp_region_held_drew (S := fun _ => True) (by kernel_rfl) trivial (fun hHeld => ?_)
    refine wpAnyH_takeD (i := 0) (d := 55) (v := .int .i64 (c : Nat)) rfl rfl rfl (by kernel_rfl) (by kernel_rfl) (by kernel_rfl) (fun _ _ _ _ h => h) ?h0 trivial ?_
    case h0 => intro w hS; go_simp
    try simp only [Act.put, List.setIfInBounds_toArray, List.set_cons_zero, List.set_cons_succ]
    refine wpAnyH_takeD (i := 1) (d := 56) (v := .int .i64 (c : Nat)) rfl rfl rfl (by kernel_rfl) (by kernel_rfl) (by kernel_rfl) (fun _ _ _ _ h => h) ?h1 trivial ?_
    case h1 => intro w hS; go_simp
    try simp only [Act.put, List.setIfInBounds_toArray, List.set_cons_zero, List.set_cons_succ]
    refine wpAnyH_takeD (i := 2) (d := 57) (v := .bool true) rfl rfl rfl (by kernel_rfl) (by kernel_rfl) (by kernel_rfl) (fun _ _ _ _ h => h) ?h2 trivial ?_
    case h2 => intro w hS; go_simp
    try simp only [Act.put, List.setIfInBounds_toArray, List.set_cons_zero, List.set_cons_succ]
    refine wpAnyH_takeD (i := 3) (d := 58) (v := .bool true) rfl rfl rfl (by kernel_rfl) (by kernel_rfl) (by kernel_rfl) (fun _ _ _ _ h => h) ?h3 trivial ?_
    case h3 => intro w hS; go_simp
    try simp only [Act.put, List.setIfInBounds_toArray, List.set_cons_zero, List.set_cons_succ]
    refine wpAnyH_takeY (i := 4) (d := 59) (v := .pointer none) rfl rfl (by kernel_rfl) (by kernel_rfl) (by kernel_rfl) (fun _ _ _ _ h => h) (by kernel_rfl) (fun w hS => ?_) trivial ?_
    · go_simp
    try simp only [Act.put, List.setIfInBounds_toArray, List.set_cons_zero, List.set_cons_succ]
    refine wpAnyH_takeY (i := 5) (d := 60) (v := .bool true) rfl rfl (by kernel_rfl) (by kernel_rfl) (by kernel_rfl) (fun _ _ _ _ h => h) (by kernel_rfl) (fun w hS => ?_) trivial ?_
    · go_simp
    try simp only [Act.put, List.setIfInBounds_toArray, List.set_cons_zero, List.set_cons_succ]
    refine wpAnyH_takeY (i := 6) (d := 61) (v := .pointer none) rfl rfl (by kernel_rfl) (by kernel_rfl) (by kernel_rfl) (fun _ _ _ _ h => h) (by kernel_rfl) (fun w hS => ?_) trivial ?_
    · go_simp
    try simp only [Act.put, List.setIfInBounds_toArray, List.set_cons_zero, List.set_cons_succ]
    refine wpAnyH_takeY (i := 7) (d := 62) (v := .bool true) rfl rfl (by kernel_rfl) (by kernel_rfl) (by kernel_rfl) (fun _ _ _ _ h => h) (by kernel_rfl) (fun w hS => ?_) trivial ?_
    · go_simp
    try simp only [Act.put, List.setIfInBounds_toArray, List.set_cons_zero, List.set_cons_succ]
    refine wpAnyH_takeY (i := 8) (d := 63) (v := .bool true) rfl rfl (by kernel_rfl) (by kernel_rfl) (by kernel_rfl) (fun _ _ _ _ h => h) (by kernel_rfl) (fun w hS => ?_) trivial ?_
    · go_simp
    try simp only [Act.put, List.setIfInBounds_toArray, List.set_cons_zero, List.set_cons_succ]
    refine wpAnyH_takeD (i := 9) (d := 64) (v := .bool true) rfl rfl rfl (by kernel_rfl) (by kernel_rfl) (by kernel_rfl) (fun _ _ _ _ h => h) ?h9 trivial ?_
    case h9 => intro w hS; go_simp
    try simp only [Act.put, List.setIfInBounds_toArray, List.set_cons_zero, List.set_cons_succ]
    refine wpAnyH_takeD (i := 10) (d := 65) (v := .bool true) rfl rfl rfl (by kernel_rfl) (by kernel_rfl) (by kernel_rfl) (fun _ _ _ _ h => h) ?h10 trivial ?_
    case h10 => intro w hS; go_simp
    try simp only [Act.put, List.setIfInBounds_toArray, List.set_cons_zero, List.set_cons_succ]
    refine wpAnyH_takeY (i := 11) (d := 66) (v := .pointer (some ⟨p, 0, none⟩)) rfl rfl (by kernel_rfl) (by kernel_rfl) (by kernel_rfl) (fun _ _ _ _ h => h) (by kernel_rfl) (fun w hS => ?_) trivial ?_
    · go_simp
    try simp only [Act.put, List.setIfInBounds_toArray, List.set_cons_zero, List.set_cons_succ]
    refine wpAnyH_takeY (i := 12) (d := 67) (v := .pointer (some ⟨q, 0, none⟩)) rfl rfl (by kernel_rfl) (by kernel_rfl) (by kernel_rfl) (fun _ _ _ _ h => h) (by kernel_rfl) (fun w hS => ?_) trivial ?_
    · go_simp
    try simp only [Act.put, List.setIfInBounds_toArray, List.set_cons_zero, List.set_cons_succ]
    refine wpAnyH_oneY (i := 13) rfl (by kernel_rfl) (by kernel_rfl) ?_
    go_simp
    refine Calls.mono (HFL.out _ (Below.refl _ _).drew) ?_
    rintro e w10 ⟨rfl, hb10⟩
    have HB10 : Hid (Below W.heap.size W w10) := hid (HB9.out.drew.trans (hb10.mono HB9.out.size))
    clear hb10
    try simp only [Act.put, List.setIfInBounds_toArray, List.set_cons_zero, List.set_cons_succ]
    refine wpAnyH_takeD (i := 14) (d := 69) (v := .bool true) rfl rfl rfl (by kernel_rfl) (by kernel_rfl) (by kernel_rfl) (fun _ _ _ _ h => h) ?h14 trivial ?_
    case h14 => intro w hS; go_simp
    try simp only [Act.put, List.setIfInBounds_toArray, List.set_cons_zero, List.set_cons_succ]
    refine wpAnyH_takeD (i := 15) (d := 70) (v := .bool true) rfl rfl rfl (by kernel_rfl) (by kernel_rfl) (by kernel_rfl) (fun _ _ _ _ h => h) ?h15 trivial ?_
    case h15 => intro w hS; go_simp
    try simp only [Act.put, List.setIfInBounds_toArray, List.set_cons_zero, List.set_cons_succ]
    refine wpAnyH_takeY (i := 16) (d := 71) (v := .pointer none) rfl rfl (by kernel_rfl) (by kernel_rfl) (by kernel_rfl) (fun _ _ _ _ h => h) (by kernel_rfl) (fun w hS => ?_) trivial ?_
    · go_simp
    try simp only [Act.put, List.setIfInBounds_toArray, List.set_cons_zero, List.set_cons_succ]
    refine wpAnyH_takeY (i := 17) (d := 72) (v := .bool true) rfl rfl (by kernel_rfl) (by kernel_rfl) (by kernel_rfl) (fun _ _ _ _ h => h) (by kernel_rfl) (fun w hS => ?_) trivial ?_
    · go_simp
    try simp only [Act.put, List.setIfInBounds_toArray, List.set_cons_zero, List.set_cons_succ]
    refine wpAnyH_takeY (i := 18) (d := 73) (v := .bool true) rfl rfl (by kernel_rfl) (by kernel_rfl) (by kernel_rfl) (fun _ _ _ _ h => h) (by kernel_rfl) (fun w hS => ?_) trivial ?_
    · go_simp
    try simp only [Act.put, List.setIfInBounds_toArray, List.set_cons_zero, List.set_cons_succ]
    refine wpAnyH_takeN (i := 19) (d := 74) rfl rfl (by kernel_rfl) (by kernel_rfl) (by kernel_rfl) (fun _ _ _ _ h => h) (by kernel_rfl) trivial ?_
    try simp only [Act.put, List.setIfInBounds_toArray, List.set_cons_zero, List.set_cons_succ]
    refine wpAnyH_takeN (i := 20) (d := 75) rfl rfl (by kernel_rfl) (by kernel_rfl) (by kernel_rfl) (fun _ _ _ _ h => h) (by kernel_rfl) trivial ?_
    try simp only [Act.put, List.setIfInBounds_toArray, List.set_cons_zero, List.set_cons_succ]
    refine wpAnyH_takeN (i := 21) (d := 76) rfl rfl (by kernel_rfl) (by kernel_rfl) (by kernel_rfl) (fun _ _ _ _ h => h) (by kernel_rfl) trivial ?_
    try simp only [Act.put, List.setIfInBounds_toArray, List.set_cons_zero, List.set_cons_succ]
    refine wpAnyH_takeN (i := 22) (d := 77) rfl rfl (by kernel_rfl) (by kernel_rfl) (by kernel_rfl) (fun _ _ _ _ h => h) (by kernel_rfl) trivial ?_
    try simp only [Act.put, List.setIfInBounds_toArray, List.set_cons_zero, List.set_cons_succ]
    refine wpAnyH_takeN (i := 23) (d := 78) rfl rfl (by kernel_rfl) (by kernel_rfl) (by kernel_rfl) (fun _ _ _ _ h => h) (by kernel_rfl) trivial ?_
    try simp only [Act.put, List.setIfInBounds_toArray, List.set_cons_zero, List.set_cons_succ]
    refine wpAnyH_takeN (i := 24) (d := 79) rfl rfl (by kernel_rfl) (by kernel_rfl) (by kernel_rfl) (fun _ _ _ _ h => h) (by kernel_rfl) trivial ?_
    try simp only [Act.put, List.setIfInBounds_toArray, List.set_cons_zero, List.set_cons_succ]
    refine wpAnyH_takeN (i := 25) (d := 80) rfl rfl (by kernel_rfl) (by kernel_rfl) (by kernel_rfl) (fun _ _ _ _ h => h) (by kernel_rfl) trivial ?_
    try simp only [Act.put, List.setIfInBounds_toArray, List.set_cons_zero, List.set_cons_succ]
    refine wpAnyH_takeY (i := 26) (d := 81) (v := .bool true) rfl rfl (by kernel_rfl) (by kernel_rfl) (by kernel_rfl) (fun _ _ _ _ h => h) (by kernel_rfl) (fun w hS => ?_) trivial ?_
    · go_simp
    try simp only [Act.put, List.setIfInBounds_toArray, List.set_cons_zero, List.set_cons_succ]
    refine wpAnyH_takeD (i := 27) (d := 82) (v := .bool true) rfl rfl rfl (by kernel_rfl) (by kernel_rfl) (by kernel_rfl) (fun _ _ _ _ h => h) ?h27 trivial ?_
    case h27 => intro w hS; go_simp
    try simp only [Act.put, List.setIfInBounds_toArray, List.set_cons_zero, List.set_cons_succ]
    refine wpAnyH_one (i := 28) rfl rfl (by kernel_rfl) ?_
    go_simp
    refine wpAnyH_done (by kernel_rfl) ?_ _
    try simp only [Act.put, List.setIfInBounds_toArray, List.set_cons_zero, List.set_cons_succ]
    go_wp2_with fail
    go_ret
    exact ⟨rfl, HB10.out⟩
  | some S =>
    as_aux_lemma =>
    obtain ⟨j, k, rfl, rfl, hbo, _⟩ := HPA.out
    obtain ⟨vc, vl, hk, hcv, hcl⟩ := hbo.2.cells
    obtain ⟨ac, cc, rfl⟩ := hcv.form
    obtain ⟨al, cl, rfl⟩ := hcl.form
    have HJ9 := hid hbo.1
    have HSL := hid hbo.1.ok.2
    have HSC : Hid (S.log.conf.length ≤ 1000000) := hid (by have := members_len _ hbo.1.ok.1.2.2.2.2.2.1; omega)
    have HCV : Hid (Cells [] w9.drew (.slice ac S.log.conf.length cc) S.log.conf.length (intVals S.log.conf)) := hid (hcv.sub (by simp))
    have HCL : Hid (Cells [] w9.drew (.slice al S.log.l.length cl) S.log.l.length (enVals S.log.l)) := hid (hcl.sub (by simp))
    have hE0 : w9.drew.heap[k]? = some (.cells (rjCells q S (.slice ac S.log.conf.length cc) (.slice al S.log.l.length cl)) 54) := hk
    have HCO : Hid (∀ W' : World, W'.heap[k]? = some (.cells (rjCells q S (.slice ac S.log.conf.length cc) (.slice al S.log.l.length cl)) 54) → W'.cell? ⟨k, 1, none⟩ = some (.int .u64 (S.hard.term : Nat)) ∧ W'.cell? ⟨k, 2, none⟩ = some (.int .i64 S.hard.vote) ∧ W'.cell? ⟨k, 3, none⟩ = some (.int .u64 (S.hard.life : Nat)) ∧ W'.cell? ⟨k, 4, none⟩ = some (.int .u64 (S.log.base : Nat)) ∧ W'.cell? ⟨k, 5, none⟩ = some (.int .u64 (S.log.bterm : Nat)) ∧ W'.cell? ⟨k, 6, none⟩ = some (.slice ac S.log.conf.length cc) ∧ W'.cell? ⟨k, 7, none⟩ = some (.slice al S.log.l.length cl) ∧ W'.cell? ⟨k, 8, none⟩ = some (.string (str S.image))) := hid (fun W' h => ⟨cell_in h 1 _ rfl, cell_in h 2 _ rfl, cell_in h 3 _ rfl, cell_in h 4 _ rfl, cell_in h 5 _ rfl, cell_in h 6 _ rfl, cell_in h 7 _ rfl, cell_in h 8 _ rfl⟩)
    clear hbo hk hcv hcl
    go_wp2_with fail
    go_region_held3 (fun W' => W'.cell? ⟨k, 1, none⟩ = some (.int .u64 (S.hard.term : Nat)) ∧ W'.cell? ⟨k, 2, none⟩ = some (.int .i64 S.hard.vote) ∧ W'.cell? ⟨k, 3, none⟩ = some (.int .u64 (S.hard.life : Nat)) ∧ W'.cell? ⟨k, 4, none⟩ = some (.int .u64 (S.log.base : Nat)) ∧ W'.cell? ⟨k, 5, none⟩ = some (.int .u64 (S.log.bterm : Nat)) ∧ W'.cell? ⟨k, 6, none⟩ = some (.slice ac S.log.conf.length cc) ∧ W'.cell? ⟨k, 7, none⟩ = some (.slice al S.log.l.length cl) ∧ W'.cell? ⟨k, 8, none⟩ = some (.string (str S.image))) (first | exact HCO.out _ (by assumption))
      (first
      | (go_at_call 14; refine Calls.mono (HFL.out _ (Below.refl _ _).drew) ?_; rintro e w10 ⟨rfl, hb10⟩; have hE1 := blk_below hE0 hb10; have HB10 : Hid (Below w9.heap.size w9 w10) := hid ⟨hb10.os, hb10.tape, hb10.output, hb10.size, hb10.block⟩; have HCV1 := hid (HCV.out.below hb10); have HCL1 := hid (HCL.out.below hb10); clear hb10)
      | (go_at_call 16; refine Calls.mono (state_any (HJ9.out.below HB10.out)) ?_; rintro e w11 ⟨vc2, vl2, rfl, hr1, hr2, hb11⟩; have hE2 := blk_below hE1 hb11; have HB11 : Hid (Below w9.heap.size w9 w11) := hid (HB10.out.trans (hb11.mono HB10.out.size)); have HCV2 := hid (HCV1.out.below hb11); have HCL2 := hid (HCL1.out.below hb11); have HR1 := hid (Cells.of_row hr1 [] (by simp)); have HR2 := hid (Cells.of_row hr2 [] (by simp)); clear hr1 hr2 hb11)
      | (go_at_call 15; refine Calls.mono (rsame_eq (S := S) HR1.out HCV2.out HR2.out HCL2.out HSC.out HSL.out) ?_; rintro e w12 ⟨rfl, hb12⟩; have hE3 := blk_below hE2 hb12; have HB12 : Hid (Below w9.heap.size w9 w12) := hid (HB11.out.trans (hb12.mono HB11.out.size)); clear hb12))
    have HB13 : Hid (Below W.heap.size W w12) := hid (HB9.out.trans (HB12.out.mono HB9.out.size))
    clear hE0 hE1 hE2 hE3
    go_wp2_with fail
    go_ret
    exact ⟨rfl, HB13.out⟩
end Go.Proofs.YtmehcogaopackaaGreat
