/-
  The walks of the reference disk's Count and Crash. (Several texts in one.)
-/
import Derived.Test.YtmehcogaopackaaGreatGI
import Derived.Test.YtmehcogaopackaaGreatJOpen1
import Derived.Test.YtmehcogaopackaaGreatJSave
import Derived.Test.YtmehcogaopackaaGreatZDisk4
/- PLAIN: a crash of a disk, as a model; what a disk's pending calls make of what lasts. -/
namespace Go.Proofs.YtmehcogaopackaaGreat
open Go.RowKit
set_option linter.unusedVariables false
set_option linter.unusedSimpArgs false
/-- what the first k steps of pending calls make of a file, and how many steps are left -/
def crashGo : Option Bytes → Nat → List Pd → Option Bytes × Nat
  | o, k, [] => (o, k)
  | o, k, c :: cs => crashGo (doneO o c (min k c.steps)) (k - min k c.steps) cs
def Ds.crashed (d : Ds) (k : Nat) : Ds := { d with seen := (crashGo d.lasts k d.pend).1, lasts := (crashGo d.lasts k d.pend).1, pend := [], fused := false }
def Ds.crash (d : Ds) (k : Int) : Ds × Nat := if k < 0 ∨ (d.count : Int) < k then (d, 1) else (d.crashed k.toNat, 0)
/-- all of them, done whole -/
def fullGo (o : Option Bytes) (cs : List Pd) : Option Bytes := cs.foldl (fun o c => doneO o c c.steps) o
/-- a disk as calls leave it -/
def Ds.Fine (d : Ds) : Prop := fullGo d.lasts d.pend = d.seen ∧ (∀ c ∈ d.pend, 1 ≤ c.steps) ∧ ∀ j, lenO (fullGo d.lasts (d.pend.take j)) ≤ d.cap
theorem doneO_zero (o : Option Bytes) (c : Pd) : doneO o c 0 = o := rfl
theorem crashGo_zero : ∀ (cs : List Pd) (o : Option Bytes), crashGo o 0 cs = (o, 0)
  | [], _ => rfl
  | c :: cs, o => by
    unfold crashGo
    rw [Nat.zero_min, doneO_zero]
    exact crashGo_zero cs o
theorem crashGo_snoc : ∀ (cs : List Pd) (o : Option Bytes) (k : Nat) (c : Pd), crashGo o k (cs ++ [c]) = (doneO (crashGo o k cs).1 c (min (crashGo o k cs).2 c.steps), (crashGo o k cs).2 - min (crashGo o k cs).2 c.steps)
  | [], o, k, c => rfl
  | d :: cs, o, k, c => by
    rw [List.cons_append, crashGo, crashGo_snoc cs]
    rfl
theorem crashGo_left : ∀ (cs : List Pd) (o : Option Bytes) (k : Nat), (crashGo o k cs).2 ≤ k
  | [], _, _ => Nat.le_refl _
  | c :: cs, o, k => by
    unfold crashGo
    exact Nat.le_trans (crashGo_left cs _ _) (Nat.sub_le _ _)
theorem fullGo_snoc (o : Option Bytes) (cs : List Pd) (c : Pd) : fullGo o (cs ++ [c]) = doneO (fullGo o cs) c c.steps := by simp [fullGo]
theorem lenO_done {o : Option Bytes} {c : Pd} {n : Nat} (h : n < c.steps) : lenO (doneO o c n) ≤ lenO o ∨ lenO (doneO o c n) ≤ lenO (doneO o c c.steps) := by
  by_cases h0 : n < 1
  · left
    unfold doneO
    rw [if_pos h0]
    exact Nat.le_refl _
  right
  unfold doneO
  rw [if_neg h0, if_neg (show ¬ c.steps < 1 by omega)]
  obtain ⟨put, s⟩ := c
  cases put
  · simp only [Bool.false_eq_true, if_false, lenO, Option.getD_some, List.length_append, List.length_take, Pd.steps] at h ⊢
    omega
  · simp only [Pd.steps, if_true] at h
    omega
theorem crashGo_len : ∀ (cs : List Pd) (o : Option Bytes) (k B : Nat), (∀ j, lenO (fullGo o (cs.take j)) ≤ B) → lenO (crashGo o k cs).1 ≤ B
  | [], o, k, B, h => h 0
  | c :: cs, o, k, B, h => by
    unfold crashGo
    by_cases hk : c.steps ≤ k
    · rw [Nat.min_eq_right hk]
      refine crashGo_len cs _ _ _ (fun j => ?_)
      have := h (j + 1)
      rwa [List.take_succ_cons] at this
    · rw [Nat.min_eq_left (by omega), Nat.sub_self, crashGo_zero]
      simp only
      rcases lenO_done (o := o) (c := c) (n := k) (by omega) with h1 | h1
      · exact Nat.le_trans h1 (h 0)
      · exact Nat.le_trans h1 (h 1)
theorem Ds.Fine.crash_len {d : Ds} (h : d.Fine) (k j : Nat) : lenO (crashGo d.lasts k (d.pend.take j)).1 ≤ d.cap :=
  crashGo_len _ _ _ _ (fun i => by rw [List.take_take]; exact h.2.2 _)
theorem Ds.Fine.crash_all {d : Ds} (h : d.Fine) (k : Nat) : lenO (crashGo d.lasts k d.pend).1 ≤ d.cap := crashGo_len _ _ _ _ h.2.2
theorem Ds.Fine.one {d : Ds} (h : d.Fine) (q : Nat) (hq : q < d.pend.length) : 1 ≤ d.pend[q].steps ∧ d.pend[q].s.length ≤ d.cap := by
  have h1 := h.2.1 _ (List.getElem_mem hq)
  refine ⟨h1, ?_⟩
  have h2 := h.2.2 (q + 1)
  rw [List.take_succ_eq_append_getElem hq, fullGo_snoc] at h2
  generalize d.pend[q] = c at *
  unfold doneO at h2
  rw [if_neg (by omega)] at h2
  obtain ⟨put, s⟩ := c
  cases put
  · simp only [Bool.false_eq_true, if_false, lenO, Option.getD_some, List.length_append, List.length_take, Pd.steps] at h2 ⊢
    omega
  · simpa [lenO] using h2
theorem count_le : ∀ (cs : List Pd) (B : Nat), (∀ c ∈ cs, c.steps ≤ B) → (cs.map Pd.steps).sum ≤ B * cs.length
  | [], B, _ => by simp
  | c :: cs, B, h => by
    have h1 := count_le cs B (fun c hc => h c (List.mem_cons_of_mem _ hc))
    have h2 := h c (List.mem_cons_self ..)
    rw [List.map_cons, List.sum_cons, List.length_cons, Nat.mul_succ]
    omega
theorem Ds.Fine.steps {d : Ds} (h : d.Fine) (hc : d.cap ≤ 1048576) : ∀ c ∈ d.pend, c.steps ≤ 1048576 := by
  intro c hm
  obtain ⟨q, hq, rfl⟩ := List.getElem_of_mem hm
  have h1 := (h.one q hq).2
  unfold Pd.steps
  split <;> omega
theorem Ds.Fine.count {d : Ds} (h : d.Fine) (hc : d.cap ≤ 1048576) (hp : d.pend.length ≤ 1000000) (j : Nat) : ((d.pend.take j).map Pd.steps).sum ≤ 1048576 * 1000000 := by
  have h1 := count_le (d.pend.take j) 1048576 (fun c hm => h.steps hc c (List.mem_of_mem_take hm))
  have h2 : (d.pend.take j).length ≤ 1000000 := by rw [List.length_take]; omega
  exact Nat.le_trans h1 (Nat.mul_le_mul_left _ h2)
theorem Ds.Fine.count_all {d : Ds} (h : d.Fine) (hc : d.cap ≤ 1048576) (hp : d.pend.length ≤ 1000000) : d.count ≤ 1048576 * 1000000 := by
  have := h.count hc hp d.pend.length
  rwa [List.take_length] at this
theorem Ds.Fine.new (cap : Nat) : (Ds.new cap).Fine := ⟨rfl, by simp [Ds.new], fun j => by simp [Ds.new, fullGo, lenO]⟩
theorem Ds.Fine.fuse {d : Ds} (h : d.Fine) (n : Int) : (d.fuse n).Fine := h
theorem Ds.Fine.spend {d : Ds} (h : d.Fine) : d.spend.Fine := h
theorem Ds.Fine.push {d : Ds} (h : d.Fine) (c : Pd) (h1 : 1 ≤ c.steps) (o : Option Bytes) (ho : o = doneO d.seen c c.steps) (hl : lenO o ≤ d.cap) : Ds.Fine { d with seen := o, pend := d.pend ++ [c] } := by
  refine ⟨?_, ?_, ?_⟩
  · show fullGo d.lasts (d.pend ++ [c]) = o
    rw [fullGo_snoc, h.1, ho]
  · intro x hx
    rcases List.mem_append.1 hx with hx | hx
    · exact h.2.1 x hx
    · rw [List.mem_singleton.1 hx]; exact h1
  · intro j
    show lenO (fullGo d.lasts ((d.pend ++ [c]).take j)) ≤ d.cap
    by_cases hj : j ≤ d.pend.length
    · rw [List.take_append_of_le_length hj]
      exact h.2.2 j
    · rw [List.take_of_length_le (by rw [List.length_append, List.length_singleton]; omega), fullGo_snoc, h.1, ← ho]
      exact hl
theorem Ds.Fine.puts {d : Ds} (h : d.Fine) (s : Bytes) : (d.puts s).1.Fine := by
  unfold Ds.puts
  split
  · exact h
  · rename_i hm
    have hz := Ds.may_zero hm
    refine Ds.Fine.spend (h.push ⟨true, s⟩ (by simp [Pd.steps]) (some s) (by simp [doneO, Pd.steps]) ?_)
    have := hz.2
    unfold Ds.used at this
    show s.length ≤ d.cap
    omega
theorem Ds.Fine.add {d : Ds} (h : d.Fine) (s : Bytes) : (d.add s).1.Fine := by
  unfold Ds.add
  split
  · exact h
  split
  · exact h
  · rename_i hm hs
    have hz := Ds.may_zero hm
    have hl : 0 < s.length := List.length_pos_iff.2 hs
    refine Ds.Fine.spend (h.push ⟨false, s⟩ (by simp [Pd.steps]; omega) (some (d.seen.getD [] ++ s)) ?_ ?_)
    · unfold doneO
      rw [if_neg (by simp [Pd.steps]; omega)]
      simp [Pd.steps]
    · have := hz.2
      unfold Ds.used lenO at this
      show (d.seen.getD [] ++ s).length ≤ d.cap
      rw [List.length_append]
      omega
theorem Ds.Fine.sync {d : Ds} (h : d.Fine) (hu : d.used ≤ d.cap) : d.sync.1.Fine := by
  unfold Ds.sync
  split
  · exact h
  · refine Ds.Fine.spend ⟨rfl, by simp, fun j => ?_⟩
    show lenO (fullGo d.seen (([] : List Pd).take j)) ≤ d.cap
    rw [List.take_nil]
    exact hu
theorem Ds.Fine.sync' {p : Ds × Nat} (h : p.1.Fine) (hu : p.1.ok) : (Ds.sync' p).1.Fine := by
  unfold Ds.sync'
  split
  · exact h
  · exact h.sync hu.2.1
theorem Ds.Fine.crashed {d : Ds} (h : d.Fine) (k : Nat) : (d.crashed k).Fine := by
  refine ⟨rfl, by simp [Ds.crashed], fun j => ?_⟩
  show lenO (fullGo (crashGo d.lasts k d.pend).1 (([] : List Pd).take j)) ≤ d.cap
  rw [List.take_nil]
  exact h.crash_all k
theorem Ds.Fine.crash {d : Ds} (h : d.Fine) (k : Int) : (d.crash k).1.Fine := by
  unfold Ds.crash
  split
  · exact h
  · exact h.crashed _
theorem Ds.Ok.crash {d : Ds} {n : Nat} (h : d.Ok n) (hf : d.Fine) (k : Int) : (d.crash k).1.Ok n := by
  unfold Ds.crash
  split
  · exact h
  · exact ⟨⟨h.1.1, hf.crash_all _, hf.crash_all _, h.1.2.2.2.1, h.1.2.2.2.2⟩, by simp [Ds.crashed]⟩
theorem Ds.Ok.fuse {d : Ds} {n : Nat} (h : d.Ok n) (k : Int) (hk : -9223372036854775808 ≤ k ∧ k ≤ 9223372036854775807) : (d.fuse k).Ok n :=
  ⟨⟨h.1.1, h.1.2.1, h.1.2.2.1, hk.1, hk.2⟩, h.2⟩
end Go.Proofs.YtmehcogaopackaaGreat
/- The walks of a disk's Pending and Crash. -/
namespace Go.Proofs.YtmehcogaopackaaGreat
open Go.RowKit Go.Maps Go.WideMaps
set_option linter.unusedVariables false
set_option linter.unusedSimpArgs false
theorem PdsAt.at {F : List Nat} {W : World} : ∀ (cs : List Pd) (xs : List Value) (q : Nat), PdsAt F W cs xs → ∀ hq : q < cs.length, ∃ v1 v2, xs[q * 2]? = some v1 ∧ xs[q * 2 + 1]? = some v2 ∧ PdAt F W cs[q] v1 v2
  | c :: cs, v1 :: v2 :: xs, 0, h, _ => ⟨v1, v2, rfl, rfl, h.1⟩
  | c :: cs, v1 :: v2 :: xs, q + 1, h, hq => by
    obtain ⟨a, b, h1, h2, h3⟩ := PdsAt.at cs xs q h.2 (by simpa using hq)
    refine ⟨a, b, ?_, ?_, ?_⟩
    · rw [show (q + 1) * 2 = q * 2 + 1 + 1 by omega]; simpa using h1
    · rw [show (q + 1) * 2 + 1 = q * 2 + 1 + 1 + 1 by omega]; simpa using h2
    · simpa using h3
theorem sum_snoc (cs : List Pd) (q : Nat) (hq : q < cs.length) : ((cs.take (q + 1)).map Pd.steps).sum = ((cs.take q).map Pd.steps).sum + cs[q].steps := by
  rw [List.take_succ_eq_append_getElem hq, List.map_append]
  simp [-List.map_take]
theorem sizeCall : (Tryz.prog.info? 85).map (·.size) = some 2 := by kernel_rfl
set_option maxRecDepth 100000 in
set_option maxHeartbeats 2000000 in
theorem pending_any {W : World} {p : Nat} {F : List Nat} {d : Ds} (h : DkAt W p F d) (hf : d.Fine) (hc : d.cap ≤ 1048576) (hp : d.pend.length ≤ 1000000) :
    Calls Tryz.prog 54 #[.pointer (some ⟨p, 0, none⟩)] W fun e W' => e = .returned (.int .i64 (d.count : Nat)) ∧ Below W.heap.size W W' := by
  obtain ⟨bs, bl, vp, xs, h1, h2, h3, h4, h5, _⟩ := h
  obtain ⟨ap, kp, rfl⟩ := own_form h4
  have HX := hid (Cells.of_row h4 [] (by simp)).at.2.2
  have HL := hid h4.1
  have HPD := hid h5
  have HCN := hid (hf.count hc hp)
  have c3 := cell_in h1 3 (.slice ap d.pend.length kp) rfl
  clear h1 h2 h3 h4 h5
  go_enter Tryz.func54, Tryz.ntmps54
  go_wp2_with fail
  go_loopw [3, 13] (fun s3 i wr => ∃ q : Nat, i = .int .i64 q ∧ s3 = .int .i64 (((d.pend.take q).map Pd.steps).sum : Nat) ∧ q ≤ d.pend.length ∧ Below W.heap.size W wr) (fun _ i _ => d.pend.length - (intOf i).toNat)
  case atStart => exact ⟨0, rfl, rfl, Nat.zero_le _, Below.refl _ _⟩
  case round =>
  obtain ⟨q, rfl, rfl, hq, hb⟩ := hrel
  have HB := hid hb
  clear hb
  by_cases hlt : q < d.pend.length
  · obtain ⟨b, off, rfl, hcell⟩ := HX.out (by rw [HL.out]; omega)
    obtain ⟨v1, v2, g1, g2, hpd⟩ := PdsAt.at _ _ q HPD.out hlt
    have hx0 := hcell wr HB.out _ _ g1
    have hx1 := hcell wr HB.out _ _ g2
    rw [show off + (q * 2 + 1) = off + q * 2 + 1 by omega] at hx1
    obtain ⟨rfl, hpd⟩ := hpd
    obtain ⟨fr, ts, cv, rfl⟩ : ∃ fr ts cv, v2 = .func fr ts cv := by
      obtain ⟨qn, qs, _, _, _, _, rfl⟩ := hpd
      split <;> exact ⟨_, _, _, rfl⟩
    have hsn := sum_snoc d.pend q hlt
    have hsb := HCN.out (q + 1)
    obtain ⟨s1, hs1⟩ : ∃ s, s = ((d.pend.take q).map Pd.steps).sum := ⟨_, rfl⟩
    obtain ⟨s2, hs2⟩ : ∃ s, s = ((d.pend.take (q + 1)).map Pd.steps).sum := ⟨_, rfl⟩
    rw [← hs1] at hsn ⊢
    rw [← hs2] at hsn hsb
    have HS2 := hid hs2
    generalize d.pend[q].steps = st at *
    have hw : IntKind.i64.wrap ((s1 : Int) + (st : Int)) = (s2 : Int) := by rw [IntWalk.i64_in _ (by omega)]; omega
    clear hcell hpd g1 g2 hs1 hs2 hsn
    have hk := heap_alloc_new wr (.cells #[.int .i64 0, .nilFunc] 85)
    have hk2 := setRow_heap (wr.alloc (.cells #[.int .i64 0, .nilFunc] 85)) wr.heap.size _ #[.int .i64 (st : Nat), .func fr ts cv] _ (0, 0) hk
    have e0 := cell_in hk2 0 (.int .i64 (st : Nat)) rfl
    have HB2 := hid (below_row (HB.out.alloc HB.out.size (.cells #[.int .i64 0, .nilFunc] 85)) HB.out.size #[.int .i64 (st : Nat), .func fr ts cv])
    clear hk2
    go_wp2_with (refine wpList_store_row rfl 85 _ _ rfl wr.heap.size #[.int .i64 (st : Nat), .func fr ts cv] (by rfl) (by rfl) 85 _ hk sizeCall rfl (by simp [Value.oneCell']) ?_)
    go_roundw
    case rel => exact ⟨q + 1, by go_num, by rw [← HS2.out], by omega, HB2.out⟩
    case measure => simp [intOf]; omega
  · obtain rfl : q = d.pend.length := by omega
    have HC := hid (show d.count = ((d.pend.take d.pend.length).map Pd.steps).sum by rw [List.take_length]; rfl)
    rw [← HC.out]
    go_wp2_with fail
    go_ret
    exact ⟨rfl, HB.out⟩
theorem done_put {o : Option Bytes} {c : Pd} {k : Nat} (h : 0 < k) (hs : 1 ≤ c.steps) (hp : c.put = true) : doneO o c (min k c.steps) = some c.s := by
  unfold doneO
  rw [if_neg (by omega), if_pos hp]
theorem done_add {o : Option Bytes} {c : Pd} {k : Nat} (h : 0 < k) (hs : 1 ≤ c.steps) (hp : c.put = false) : doneO o c (min k c.steps) = some (o.getD [] ++ c.s.take (min k c.steps)) := by
  unfold doneO
  rw [if_neg (by omega), if_neg (by simp [hp])]
theorem crashGo_next (o : Option Bytes) (k : Nat) (cs : List Pd) (q : Nat) (hq : q < cs.length) :
    crashGo o k (cs.take (q + 1)) = (doneO (crashGo o k (cs.take q)).1 cs[q] (min (crashGo o k (cs.take q)).2 cs[q].steps), (crashGo o k (cs.take q)).2 - min (crashGo o k (cs.take q)).2 cs[q].steps) := by
  rw [List.take_succ_eq_append_getElem hq, crashGo_snoc]
set_option maxRecDepth 100000 in
set_option maxHeartbeats 4000000 in
theorem crash_any {W : World} {p : Nat} {F : List Nat} {d : Ds} {n : Nat} (h : DkAt W p F d) (hok : d.Ok n) (hf : d.Fine) (hn : n ≤ 1000000) (k : Int) (hk : -9223372036854775808 ≤ k ∧ k ≤ 9223372036854775807) :
    Calls Tryz.prog 21 #[.pointer (some ⟨p, 0, none⟩), .int .i64 k] W fun e W' => e = .returned (.int .i64 ((d.crash k).2 : Nat)) ∧ After W p F (d.crash k).1 W' := by
  have hpn : d.pend.length ≤ 1000000 := Nat.le_trans hok.2 hn
  have HP := hid (pending_any h hf hok.1.1 hpn)
  have hcb := hf.count_all hok.1.1 hpn
  have H := hid h
  by_cases hk0 : k < 0
  · have HC := hid (show d.crash k = (d, 1) from if_pos (.inl hk0))
    clear h hok hf
    go_enter Tryz.func21, Tryz.ntmps21
    go_wp2_with fail
    go_ret
    rw [HC.out]
    exact ⟨rfl, .same H.out (Below.refl _ _)⟩
  obtain ⟨m, rfl⟩ := Int.eq_ofNat_of_zero_le (by omega : 0 ≤ k)
  have hm0 : ¬ ((m : Int) < 0) := by omega
  by_cases hmc : d.count < m
  · have HC := hid (show d.crash m = (d, 1) from if_pos (.inr (by omega)))
    have hmi : (d.count : Int) < (m : Int) := by omega
    clear h hok hf hmc
    generalize d.count = N at *
    go_enter Tryz.func21, Tryz.ntmps21
    go_wp2_with fail
    refine Calls.mono HP.out ?_
    rintro e w1 ⟨rfl, hb1⟩
    have HB1 := hid hb1
    clear hb1
    go_wp2_with fail
    go_ret
    rw [HC.out]
    exact ⟨rfl, .same H.out HB1.out⟩
  have hmi : ¬ ((d.count : Int) < (m : Int)) := by omega
  have HC := hid (show d.crash m = (d.crashed m, 0) from if_neg (by rintro (h | h) <;> omega))
  have HF := hid hf
  have HOK := hid hok
  clear h hok hf hmc hk0
  generalize d.count = N at *
  go_enter Tryz.func21, Tryz.ntmps21
  go_wp2_with fail
  refine Calls.mono HP.out ?_
  rintro e w1 ⟨rfl, hb1⟩
  have H1 := hid (H.out.below hb1)
  have HB1 := hid hb1
  clear hb1 HP
  obtain ⟨bs, bl, vp, xs, h1, h2, h3, h4, h5, h6, h7, h8, h9, h10, h11⟩ := H1.out
  have c2 : w1.cell? ⟨p, 2, none⟩ = some (.map (some bl)) := cell_in h1 2 _ rfl
  have HCL := hid (Tryz.maps_Clone 9 (plainElem Tryz.prog 9) bl 1 (DM d.lasts) w1 h3)
  obtain ⟨ap, kp, rfl⟩ := own_form h4
  have HH1 := hid h1
  have H4 := hid h4
  have H5 := hid h5
  have H11 := hid h11
  have H7 := hid h7
  have HPW : Hid (p < W.heap.size) := hid (H.out.lt p h7)
  have HFW : Hid (∀ b ∈ F, b < W.heap.size) := hid H.out.lt
  clear h1 h2 h3 h4 h5 h6 h7 h8 h9 h10 h11
  go_wp2_with fail
  refine Calls.mono HCL.out ?_
  rintro e w2 ⟨rfl, hm2, hm3, hb2⟩
  have HH2 := hid (blk_below HH1.out hb2)
  have c3 := cell_in HH2.out 3 (.slice ap d.pend.length kp) rfl
  have HM2 : Hid (MapAt w2 w1.heap.size d.lasts) := hm2
  have H42 := hid (ownsRow_of_block H4.out fun r hr => hb2.block r (H4.out.lt r hr).2)
  have H52 := hid (PdsAt.turn (G := F) (fun b hb => hb) (fun b cs hb _ => hb2.block b (H11.out b hb)) _ _ H5.out)
  have HX := hid (Cells.of_row H42.out [] (by simp)).at.2.2
  have HL := hid H42.out.1
  have HB2 := hid (HB1.out.trans (hb2.mono HB1.out.size))
  have HFL : Hid (∀ b ∈ F, b < w2.heap.size) := hid (fun b hb => Nat.lt_of_lt_of_le (H11.out b hb) hb2.size)
  have HG2 : Hid (W.heap.size ≤ w1.heap.size) := HB1.out.size
  clear hm2 hm3 hb2 HCL H4 H5 H11 c2 HH1 HB1
  generalize w1.heap.size = g at *
  go_wp2_with fail
  go_loopw [1, 30] (fun s1 i wr => ∃ q : Nat, i = .int .i64 q ∧ s1 = .int .i64 ((crashGo d.lasts m (d.pend.take q)).2 : Nat) ∧ q ≤ d.pend.length ∧ Turn [g] w2 wr ∧ MapAt wr g (crashGo d.lasts m (d.pend.take q)).1) (fun _ i _ => d.pend.length - (intOf i).toNat)
  case atStart => exact ⟨0, rfl, rfl, Nat.zero_le _, Turn.refl _ _, HM2.out⟩
  case round =>
  obtain ⟨q, rfl, rfl, hq, ht, hm⟩ := hrel
  have HT := hid ht
  have HM := hid hm
  clear ht hm
  by_cases hlt : q < d.pend.length
  · as_aux_lemma =>
    obtain ⟨b, off, rfl, hcell⟩ := HX.out (by rw [HL.out]; omega)
    obtain ⟨v1, v2, g1, g2, hpd⟩ := PdsAt.at _ _ q H52.out hlt
    have hgb : g ≠ b := by
      obtain ⟨es, cl, hmm⟩ := HM2.out.isMap
      have := own_ne H42.out hmm (fun cur e => by cases e)
      simpa [Value.ownBlock] using this
    have hbl : b < w2.heap.size := World.block_lt_of_cell? _ _ (hcell w2 (Below.refl _ _) _ _ g1)
    have hbk : wr.heap[b]? = w2.heap[b]? := HT.out.block hbl (by simpa using hgb.symm)
    have hx0 := (World.cell?_of_block (a := ⟨b, off + q * 2, none⟩) hbk).trans (hcell w2 (Below.refl _ _) _ _ g1)
    have hx1 := (World.cell?_of_block (a := ⟨b, off + (q * 2 + 1), none⟩) hbk).trans (hcell w2 (Below.refl _ _) _ _ g2)
    rw [show off + (q * 2 + 1) = off + q * 2 + 1 by omega] at hx1
    obtain ⟨rfl, qn, qs, hqn, hqs, hn1, hn2, hv2⟩ := hpd
    obtain ⟨fr, ts, cv, hfv⟩ : ∃ fr ts cv, v2 = .func fr ts cv := by rw [hv2]; split <;> exact ⟨_, _, _, rfl⟩
    subst hfv
    have HV2 := hid hv2
    clear hv2
    have hone := HF.out.one q hlt
    have HCR := hid (crashGo_next d.lasts m d.pend q hlt)
    have hlen := HF.out.crash_len m q
    have hcap : d.cap ≤ 1048576 := HOK.out.1.1
    have hgF : ∀ x ∈ F, x ≠ g := fun x hx => by have := HFW.out x hx; have := HG2.out; omega
    have hqn4 : wr.heap[qn]? = some (.cells #[.string { data := #[108, 111, 103] }] 9) := (HT.out.block (HFL.out _ hn1) (by simpa using hgF _ hn1)).trans hqn
    have hqs4 : wr.heap[qs]? = some (.cells #[.string (str d.pend[q].s)] 9) := (HT.out.block (HFL.out _ hn2) (by simpa using hgF _ hn2)).trans hqs
    have hmb := Nat.le_trans (crashGo_left (d.pend.take q) d.lasts m) (show m ≤ 1048576000000 by omega)
    generalize crashGo d.lasts m (d.pend.take q) = P at *
    obtain ⟨o, kk⟩ := P
    simp only at hlen HM hmb HCR
    generalize d.pend[q] = c at *
    have hsl : c.steps ≤ 1048576 := by unfold Pd.steps; split <;> omega
    have hk0 := heap_alloc_new wr (.cells #[.int .i64 0, .nilFunc] 85)
    have hbb : Below wr.heap.size wr ((wr.alloc (.cells #[.int .i64 0, .nilFunc] 85)).setRow wr.heap.size #[.int .i64 (c.steps : Nat), .func fr ts cv]) := below_row ((Below.refl _ _).alloc (Nat.le_refl _) _) (Nat.le_refl _) _
    have HK4 := hid (setRow_heap (wr.alloc (.cells #[.int .i64 0, .nilFunc] 85)) wr.heap.size _ #[.int .i64 (c.steps : Nat), .func fr ts cv] _ (0, 0) hk0)
    have HQN := hid (blk_below hqn4 hbb)
    have HQS := hid (blk_below hqs4 hbb)
    have HM4 := hid (HM.out.of_block (hbb.block g (HM.out.lt)))
    have HT4 := hid (HT.out.trans (Turn.below (F := [g]) hbb) (fun b hb => .inl hb))
    have HKG : Hid (wr.heap.size ≠ g) := hid (by have : g < wr.heap.size := HM.out.lt; omega)
    clear hcell g1 g2 hgb hbl hbk hqn hqs hqn4 hqs4 hbb hn1 hn2 hgF HM HT HX H52 H42 HFL
    obtain ⟨mm, hmm⟩ : ∃ mm, mm = min kk c.steps := ⟨_, rfl⟩
    have hmin : min (kk : Int) (c.steps : Int) = (mm : Int) := by omega
    have hsub : IntKind.i64.wrap ((kk : Int) - (mm : Int)) = ((kk - mm : Nat) : Int) := by rw [IntWalk.i64_in _ (by omega)]; omega
    have HMM := hid hmm
    have e0 := cell_in HK4.out 0 (.int .i64 (c.steps : Nat)) rfl
    go_upto_if 35 with (refine wpList_store_row rfl 85 _ _ rfl wr.heap.size #[.int .i64 (c.steps : Nat), .func fr ts cv] (by rfl) (by rfl) 85 _ hk0 sizeCall rfl (by simp [Value.oneCell']) ?_)
    by_cases h0 : 0 < kk
    · have hki : (0 : Int) < (kk : Int) := by omega
      cases hput : c.put
      · have hpf : ¬ c.put = true := by simp [hput]
        clear hmm
        have hms : mm ≤ c.s.length := by
          have h2 : c.steps = c.s.length := by unfold Pd.steps; rw [if_neg (by simp [hput])]
          have h3 := HMM.out
          omega
        have e1 := cell_in HK4.out 1 (.func fr ts cv) rfl
        have hv2 := HV2.out
        rw [if_neg hpf] at hv2
        cases hv2
        clear HV2
        go_wp2_with fail
        refine Calls.mono (adds_any HM4.out c.s mm hms (by omega) (by omega) qn qs HQN.out HQS.out) ?_
        rintro e w5 ⟨rfl, hm5, ht5⟩
        have HK5 := hid ((ht5.block (Array.getElem?_eq_some_iff.1 HK4.out).1 (by simpa using HKG.out)).trans HK4.out)
        have HM5 := hid hm5
        have HT5 := hid (HT4.out.trans ht5 (fun b hb => .inl hb))
        clear hm5 ht5 e0 e1
        have e0 := cell_in HK5.out 0 (.int .i64 (c.steps : Nat)) rfl
        go_wp2_with fail
        go_roundw
        case rel => exact ⟨q + 1, by go_num, by rw [HCR.out, HMM.out], by omega, HT5.out, by rw [HCR.out, done_add h0 hone.1 hput, ← HMM.out]; exact HM5.out⟩
        case measure => simp [intOf]; omega
      · clear hmm
        have e1 := cell_in HK4.out 1 (.func fr ts cv) rfl
        have hv2 := HV2.out
        rw [if_pos hput] at hv2
        cases hv2
        clear HV2
        go_wp2_with fail
        refine Calls.mono (puts_any HM4.out c.s (by unfold maxLen; omega) qn qs mm HQN.out HQS.out) ?_
        rintro e w5 ⟨rfl, hm5, ht5⟩
        have HK5 := hid ((ht5.block (Array.getElem?_eq_some_iff.1 HK4.out).1 (by simpa using HKG.out)).trans HK4.out)
        have HM5 := hid hm5
        have HT5 := hid (HT4.out.trans ht5 (fun b hb => .inl hb))
        clear hm5 ht5 e0 e1
        have e0 := cell_in HK5.out 0 (.int .i64 (c.steps : Nat)) rfl
        go_wp2_with fail
        go_roundw
        case rel => exact ⟨q + 1, by go_num, by rw [HCR.out, HMM.out], by omega, HT5.out, by rw [HCR.out, done_put h0 hone.1 hput]; exact HM5.out⟩
        case measure => simp [intOf]; omega
    · have hki : ¬ ((0 : Int) < (kk : Int)) := by omega
      obtain rfl : kk = 0 := by omega
      obtain rfl : mm = 0 := by omega
      have HDZ := hid (show min 0 c.steps = 0 from Nat.zero_min _)
      clear hmm
      go_wp2_with fail
      go_roundw
      case rel => exact ⟨q + 1, by go_num, by rw [HCR.out, HDZ.out]; simp only [Value.int.injEq, true_and]; omega, by omega, HT4.out, by rw [HCR.out, HDZ.out, doneO_zero]; exact HM4.out⟩
      case measure => simp [intOf]; omega
  · obtain rfl : q = d.pend.length := by omega
    rw [List.take_length] at HM ⊢
    have HCD := hid (show d.crashed m = { d with seen := (crashGo d.lasts m d.pend).1, lasts := (crashGo d.lasts m d.pend).1, pend := [], fused := false } from rfl)
    generalize crashGo d.lasts m d.pend = P at *
    obtain ⟨o, kk⟩ := P
    simp only at HM HCD ⊢
    have HCM := hid (Tryz.maps_Clone 9 (plainElem Tryz.prog 9) g 1 (DM o) wr HM.out)
    have HHR := hid ((HT.out.block (Array.getElem?_eq_some_iff.1 HH2.out).1 (by have := HPW.out; have := HG2.out; simp only [List.mem_singleton]; omega)).trans HH2.out)
    clear HX HL H42 H52
    go_wp2_with fail
    refine Calls.mono HCM.out ?_
    rintro e w5 ⟨rfl, hm5, hm6, hb5⟩
    have HH5 := hid (blk_below HHR.out hb5)
    have c1 := cell_in HH5.out 1 (.map (some bs)) rfl
    have f1 := free_in HH5.out 1
    have c2 := cell_in HH5.out 2 (.map (some bl)) rfl
    have f2 := free_in HH5.out 2
    have c3 := cell_in HH5.out 3 (.slice ap d.pend.length kp) rfl
    have f3 := free_in HH5.out 3
    have c4 := cell_in HH5.out 4 (.bool d.fused) rfl
    have f4 := free_in HH5.out 4
    have HM5 : Hid (MapAt w5 wr.heap.size o) := hm5
    have HM6 : Hid (MapAt w5 g o) := hm6
    have hgl : g < wr.heap.size := HM.out.lt
    have HTW : Hid (Turn F W w5) := hid ((((Turn.below (F := F) HB2.out)).trans HT.out (fun b hb => .inr (by rw [List.mem_singleton.1 hb]; exact HG2.out))).trans (Turn.below (F := F) hb5) (fun b hb => .inl hb))
    have HRS : Hid (W.heap.size ≤ wr.heap.size) := Nat.le_trans HB2.out.size HT.out.size
    have HSZ : Hid (wr.heap.size < w5.heap.size) := HM5.out.lt
    clear hm5 hm6 hb5 HCM
    go_wp2_with fail
    go_ret
    rw [HC.out, HCD.out]
    refine ⟨rfl, [p, g, wr.heap.size], ?_, ?_, ?_⟩
    · have hgp : g ≠ p := by have := HPW.out; have := HG2.out; omega
      have hgp2 : wr.heap.size ≠ p := by have := HPW.out; have := HRS.out; omega
      have hbk : ∀ x, x ≠ p → ((((w5.setCell ⟨p, 1, none⟩ (.map (some g))).setCell ⟨p, 2, none⟩ (.map (some wr.heap.size))).setCell ⟨p, 3, none⟩ (.slice none 0 0)).setCell ⟨p, 4, none⟩ (.bool false)).heap[x]? = w5.heap[x]? := fun x hx =>
        (Below.heap_setCell _ _ _ _ hx).trans ((Below.heap_setCell _ _ _ _ hx).trans ((Below.heap_setCell _ _ _ _ hx).trans (Below.heap_setCell _ _ _ _ hx)))
      refine ⟨g, wr.heap.size, .slice none 0 0, [], heap_set (heap_set (heap_set (heap_set HH5.out 1 _) 2 _) 3 _) 4 _, HM6.out.of_block (hbk _ hgp), HM5.out.of_block (hbk _ hgp2), World.ownsRow_nil _ _ _ _, rfl, by omega, by simp, by simp, by simp, (fun r hr => by cases hr), fun x hx => ?_⟩
      have h5 := HSZ.out
      have h6 := HPW.out
      have h7 := HRS.out
      simp only [List.mem_cons, List.not_mem_nil, or_false] at hx
      have : x < w5.heap.size := by rcases hx with rfl | rfl | rfl <;> omega
      simpa [World.setCell] using this
    · intro b hb
      simp only [List.mem_cons, List.not_mem_nil, or_false] at hb
      rcases hb with rfl | rfl | rfl
      · exact .inl H7.out
      · exact .inr HG2.out
      · exact .inr HRS.out
    · exact (((HTW.out.trans (Turn.set _ p 1 _ H7.out) (fun b h => .inl h)).trans (Turn.set _ p 2 _ H7.out) (fun b h => .inl h)).trans (Turn.set _ p 3 _ H7.out) (fun b h => .inl h)).trans (Turn.set _ p 4 _ H7.out) (fun b h => .inl h)
end Go.Proofs.YtmehcogaopackaaGreat
/- The walks of the reference disk's Count and Crash. -/
namespace Go.Proofs.YtmehcogaopackaaGreat
open Go.RowKit
set_option linter.unusedVariables false
set_option linter.unusedSimpArgs false
set_option maxRecDepth 100000 in
set_option maxHeartbeats 2000000 in
theorem rcount_any {G : List Nat} {W : World} {p : Nat} {d : Ds} (h : RdAt G W p d) (hf : d.Fine) (hc : d.cap ≤ 1048576) (hp : d.pend.length ≤ 1000000) :
    Calls Tryz.prog 55 #[.pointer (some ⟨p, 0, none⟩)] W fun e W' => e = .returned (.int .i64 (d.count : Nat)) ∧ Below W.heap.size W W' := by
  obtain ⟨vs, vl, vp, h1, h2, h3, h4, h5⟩ := h
  obtain ⟨ap, kp, rfl⟩ := h4.form
  have HX := hid h4.at.2.2
  have HH := hid h1
  have HCN := hid (hf.count hc hp)
  clear h1 h2 h3 h4 h5
  go_enter Tryz.func55, Tryz.ntmps55
  go_wp2_with fail
  go_loopw [3, 4] (fun s3 i wr => ∃ q : Nat, i = .int .i64 q ∧ s3 = .int .i64 (((d.pend.take q).map Pd.steps).sum : Nat) ∧ q ≤ d.pend.length ∧ Below W.heap.size W wr) (fun _ i _ => d.pend.length - (intOf i).toNat)
  case atStart => exact ⟨0, rfl, rfl, Nat.zero_le _, Below.refl _ _⟩
  case round =>
  obtain ⟨q, rfl, rfl, hq, hb⟩ := hrel
  have HB := hid hb
  have c3 : wr.cell? ⟨p, 3, none⟩ = some (.slice ap d.pend.length kp) := cell_in (blk_below HH.out hb) 3 _ rfl
  clear hb
  by_cases hlt : q < d.pend.length
  · obtain ⟨b, off, rfl, hcell⟩ := HX.out (by rw [clVals_len]; omega)
    obtain ⟨g1, g2, g3⟩ := clVals_at _ q hlt
    have hx0 := hcell wr HB.out _ _ g1
    have hx1 := hcell wr HB.out _ _ g2
    have hx2 := hcell wr HB.out _ _ g3
    rw [show off + (q * 3 + 1) = off + q * 3 + 1 by omega] at hx1
    rw [show off + (q * 3 + 2) = off + q * 3 + 2 by omega] at hx2
    have hsn := sum_snoc d.pend q hlt
    have hsb := HCN.out (q + 1)
    obtain ⟨s1, hs1⟩ : ∃ s, s = ((d.pend.take q).map Pd.steps).sum := ⟨_, rfl⟩
    obtain ⟨s2, hs2⟩ : ∃ s, s = ((d.pend.take (q + 1)).map Pd.steps).sum := ⟨_, rfl⟩
    rw [← hs1] at hsn ⊢
    rw [← hs2] at hsn hsb
    have HS2 := hid hs2
    generalize d.pend[q] = c at *
    have hw : IntKind.i64.wrap ((s1 : Int) + (c.steps : Int)) = (s2 : Int) := by rw [IntWalk.i64_in _ (by omega)]; omega
    clear hcell g1 g2 g3 hs1 hs2 hsn
    go_wp2_with fail
    refine Calls.mono (rsteps_any c _) ?_
    rintro e w2 ⟨rfl, hb2⟩
    have HB2 := hid (HB.out.trans (hb2.mono HB.out.size))
    clear hb2
    go_wp2_with fail
    go_roundw
    case rel => exact ⟨q + 1, by go_num, by rw [← HS2.out], by omega, HB2.out⟩
    case measure => simp [intOf]; omega
  · obtain rfl : q = d.pend.length := by omega
    have HC := hid (show d.count = ((d.pend.take d.pend.length).map Pd.steps).sum by rw [List.take_length]; rfl)
    rw [← HC.out]
    go_wp2_with fail
    go_ret
    exact ⟨rfl, HB.out⟩
set_option maxRecDepth 100000 in
set_option maxHeartbeats 4000000 in
theorem rcrash_any {G : List Nat} {W : World} {p : Nat} {d : Ds} {n : Nat} (h : RdAt G W p d) (hG : ∀ b ∈ G, b < W.heap.size) (hok : d.Ok n) (hf : d.Fine) (hn : n ≤ 1000000) (k : Int) (hk : -9223372036854775808 ≤ k ∧ k ≤ 9223372036854775807) :
    Calls Tryz.prog 22 #[.pointer (some ⟨p, 0, none⟩), .int .i64 k] W fun e W' => e = .returned (.int .i64 ((d.crash k).2 : Nat)) ∧ RdAt G W' p (d.crash k).1 ∧ Turn [p] W W' := by
  have hpn : d.pend.length ≤ 1000000 := Nat.le_trans hok.2 hn
  have HP := hid (rcount_any h hf hok.1.1 hpn)
  have hcb := hf.count_all hok.1.1 hpn
  have H := hid h
  by_cases hk0 : k < 0
  · have HC := hid (show d.crash k = (d, 1) from if_pos (.inl hk0))
    clear h hok hf
    go_enter Tryz.func22, Tryz.ntmps22
    go_wp2_with fail
    go_ret
    rw [HC.out]
    exact ⟨rfl, H.out, Turn.refl _ _⟩
  obtain ⟨m, rfl⟩ := Int.eq_ofNat_of_zero_le (by omega : 0 ≤ k)
  have hm0 : ¬ ((m : Int) < 0) := by omega
  by_cases hmc : d.count < m
  · have HC := hid (show d.crash m = (d, 1) from if_pos (.inr (by omega)))
    have hmi : (d.count : Int) < (m : Int) := by omega
    clear h hok hf hmc
    generalize d.count = N at *
    go_enter Tryz.func22, Tryz.ntmps22
    go_wp2_with fail
    refine Calls.mono HP.out ?_
    rintro e w1 ⟨rfl, hb1⟩
    have HB1 := hid hb1
    clear hb1
    go_wp2_with fail
    go_ret
    rw [HC.out]
    exact ⟨rfl, H.out.below HB1.out, Turn.below HB1.out⟩
  have hmi : ¬ ((d.count : Int) < (m : Int)) := by omega
  have HC := hid (show d.crash m = (d.crashed m, 0) from if_neg (by rintro (h | h) <;> omega))
  have HF := hid hf
  have HOK := hid hok
  have HG := hid hG
  clear h hok hf hmc hk0 hG
  generalize d.count = N at *
  go_enter Tryz.func22, Tryz.ntmps22
  go_wp2_with fail
  refine Calls.mono HP.out ?_
  rintro e w1 ⟨rfl, hb1⟩
  have hd1 := H.out.below hb1
  have HB1 := hid hb1
  have HPW : Hid (p < W.heap.size) := hid H.out.lt
  clear hb1 HP H
  obtain ⟨vs, vl, vp, h1, h2, h3, h4, h5⟩ := hd1
  obtain ⟨ap, kp, rfl⟩ := h4.form
  obtain ⟨al, kl, rfl⟩ := h3.form
  obtain ⟨a0, k0, rfl⟩ := h2.form
  have c2 : w1.cell? ⟨p, 2, none⟩ = some (.slice al (flN d.lasts) kl) := cell_in h1 2 _ rfl
  have HH := hid h1
  have HX := hid h4.at.2.2
  have HL := hid h3
  have HPG := hid h5
  clear h1 h2 h3 h4 h5
  go_wp2_with fail
  rw [show decide (N < m) = false from decide_eq_false (by omega)]
  go_loopw [1, 5, 6] (fun s1 s5 i wr => ∃ q : Nat, i = .int .i64 q ∧ s1 = .int .i64 ((crashGo d.lasts m (d.pend.take q)).2 : Nat) ∧ q ≤ d.pend.length ∧ Below w1.heap.size w1 wr ∧ Cells (p :: G) wr s5 (flN (crashGo d.lasts m (d.pend.take q)).1) (flVals (crashGo d.lasts m (d.pend.take q)).1)) (fun _ _ i _ => d.pend.length - (intOf i).toNat)
  case atStart => exact ⟨0, rfl, rfl, Nat.zero_le _, Below.refl _ _, HL.out⟩
  case round =>
  obtain ⟨q, rfl, rfl, hq, hb, hcl⟩ := hrel
  obtain ⟨a5, k5, rfl⟩ := hcl.form
  have HB := hid hb
  have HCL := hid hcl
  have hp3 := blk_below HH.out hb
  have c3 : wr.cell? ⟨p, 3, none⟩ = some (.slice ap d.pend.length kp) := cell_in hp3 3 _ rfl
  have HP3 := hid hp3
  clear hb hcl hp3
  by_cases hlt : q < d.pend.length
  · as_aux_lemma =>
    obtain ⟨b, off, rfl, hcell⟩ := HX.out (by rw [clVals_len]; omega)
    obtain ⟨g1, g2, g3⟩ := clVals_at _ q hlt
    have hx0 := hcell wr HB.out _ _ g1
    have hx1 := hcell wr HB.out _ _ g2
    have hx2 := hcell wr HB.out _ _ g3
    rw [show off + (q * 3 + 1) = off + q * 3 + 1 by omega] at hx1
    rw [show off + (q * 3 + 2) = off + q * 3 + 2 by omega] at hx2
    have HCELL := hid hcell
    have HG1 := hid g1
    have HG2 := hid g2
    have HG3 := hid g3
    have hone := HF.out.one q hlt
    have HCR := hid (crashGo_next d.lasts m d.pend q hlt)
    have hlen := HF.out.crash_len m q
    have hcap : d.cap ≤ 1048576 := HOK.out.1.1
    have hmb := Nat.le_trans (crashGo_left (d.pend.take q) d.lasts m) (show m ≤ 1048576000000 by omega)
    generalize crashGo d.lasts m (d.pend.take q) = P at *
    obtain ⟨o, kk⟩ := P
    simp only at hlen HCL hmb HCR
    generalize d.pend[q] = c at *
    have hsl : c.steps ≤ 1048576 := by unfold Pd.steps; split <;> omega
    obtain ⟨mm, hmm⟩ : ∃ mm, mm = min kk c.steps := ⟨_, rfl⟩
    have hsub : IntKind.i64.wrap ((kk : Int) - (mm : Int)) = ((kk - mm : Nat) : Int) := by rw [IntWalk.i64_in _ (by omega)]; omega
    have HMM := hid hmm
    have HWW : Hid (W.heap.size ≤ wr.heap.size) := Nat.le_trans HB1.out.size HB.out.size
    have HDN : Hid (∀ w : World, Below wr.heap.size wr w → Calls Tryz.prog 37 #[.slice a5 (flN o) k5, .agg #[.int .i64 (pdKind c), .string { data := #[108, 111, 103] }, .string (str c.s)], .int .i64 (mm : Nat)] w fun e w' => ∃ v', e = .returned v' ∧ Cells (p :: G) w' v' (flN (doneO o c mm)) (flVals (doneO o c mm)) ∧ Below w.heap.size w w') := hid (fun w hw =>
      rdone_any (HCL.out.below hw) (fun x hx => by
        have h1 := hw.size
        have h2 := HWW.out
        have h3 := HPW.out
        rcases List.mem_cons.1 hx with rfl | hx
        · omega
        · have := HG.out x hx; omega) c mm (by omega) (by omega) (by omega))
    clear hcell g1 g2 g3 hmb
    go_wp2_with fail
    refine Calls.mono (rsteps_any c _) ?_
    rintro e w2 ⟨rfl, hb2⟩
    have HB2 := hid hb2
    have hp4 := blk_below HP3.out hb2
    clear hx0 hx1 hx2 c3
    have c3 : w2.cell? ⟨p, 3, none⟩ = some (.slice (some ⟨b, off, none⟩) d.pend.length kp) := cell_in hp4 3 _ rfl
    have HB22 := hid (HB.out.trans (hb2.mono HB.out.size))
    have hx0 := HCELL.out w2 HB22.out _ _ HG1.out
    have hx1 := HCELL.out w2 HB22.out _ _ HG2.out
    have hx2 := HCELL.out w2 HB22.out _ _ HG3.out
    rw [show off + (q * 3 + 1) = off + q * 3 + 1 by omega] at hx1
    rw [show off + (q * 3 + 2) = off + q * 3 + 2 by omega] at hx2
    clear hb2 hp4
    by_cases hks : kk < c.steps
    · have hki : (kk : Int) < (c.steps : Int) := by omega
      obtain rfl : mm = kk := by omega
      clear hmm
      go_wp2_with fail
      refine Calls.mono (HDN.out _ HB2.out) ?_
      rintro e w3 ⟨v3, rfl, hc3, hb3⟩
      have HC3 := hid hc3
      have HB3 := hid (HB22.out.trans (hb3.mono HB22.out.size))
      clear hc3 hb3
      go_wp2_with fail
      go_roundw
      case rel => exact ⟨q + 1, by go_num, by rw [HCR.out, ← HMM.out]; simp, by omega, HB3.out, by rw [HCR.out, ← HMM.out]; exact HC3.out⟩
      case measure => simp [intOf]; omega
    · have hki : ¬ ((kk : Int) < (c.steps : Int)) := by omega
      obtain rfl : mm = c.steps := by omega
      clear hmm
      go_wp2_with fail
      refine Calls.mono (HDN.out _ HB2.out) ?_
      rintro e w3 ⟨v3, rfl, hc3, hb3⟩
      have HC3 := hid hc3
      have HB3 := hid (HB22.out.trans (hb3.mono HB22.out.size))
      clear hc3 hb3
      go_wp2_with fail
      go_roundw
      case rel => exact ⟨q + 1, by go_num, by rw [HCR.out, ← HMM.out], by omega, HB3.out, by rw [HCR.out, ← HMM.out]; exact HC3.out⟩
      case measure => simp [intOf]; omega
  · obtain rfl : q = d.pend.length := by omega
    rw [List.take_length] at HCL ⊢
    have HCD := hid (show d.crashed m = { d with seen := (crashGo d.lasts m d.pend).1, lasts := (crashGo d.lasts m d.pend).1, pend := [], fused := false } from rfl)
    generalize crashGo d.lasts m d.pend = P at *
    obtain ⟨o, kk⟩ := P
    simp only at HCL HCD ⊢
    have c1 := cell_in HP3.out 1 (.slice a0 (flN d.seen) k0) rfl
    have f1 := free_in HP3.out 1
    have c2 := cell_in HP3.out 2 (.slice al (flN d.lasts) kl) rfl
    have f2 := free_in HP3.out 2
    have f3 := free_in HP3.out 3
    have c4 := cell_in HP3.out 4 (.bool d.fused) rfl
    have f4 := free_in HP3.out 4
    clear HX HL
    go_wp2_with fail
    go_ret
    rw [HC.out, HCD.out]
    have hT : Turn [p] wr ((((wr.setCell ⟨p, 1, none⟩ (.slice a5 (flN o) k5)).setCell ⟨p, 2, none⟩ (.slice a5 (flN o) k5)).setCell ⟨p, 3, none⟩ (.slice none 0 0)).setCell ⟨p, 4, none⟩ (.bool false)) :=
      (((Turn.set _ p 1 _ (by simp)).trans (Turn.set (F := [p]) _ p 2 _ (by simp)) (fun b h => .inl h)).trans (Turn.set (F := [p]) _ p 3 _ (by simp)) (fun b h => .inl h)).trans (Turn.set (F := [p]) _ p 4 _ (by simp)) (fun b h => .inl h)
    have hcx := HCL.out.besides (hT.mono (G := p :: G) (by simp)) (fun b hb => .inl hb)
    refine ⟨rfl, ⟨_, _, .slice none 0 0, heap_set (heap_set (heap_set (heap_set HP3.out 1 _) 2 _) 3 _) 4 _, hcx, hcx, ⟨none, 0, rfl, Nat.le_refl _, fun h0 => absurd h0 (by simp [clVals])⟩, HPG.out⟩, ?_⟩
    exact ((Turn.below (F := [p]) HB1.out).trans (Turn.below (F := [p]) HB.out) (fun b hb => .inl hb)).trans hT (fun b hb => .inl hb)
end Go.Proofs.YtmehcogaopackaaGreat
