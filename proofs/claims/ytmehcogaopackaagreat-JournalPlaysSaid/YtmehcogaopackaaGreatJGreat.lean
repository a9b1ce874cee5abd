/-
  The walks of the law's few, great, two.
-/
import Derived.Test.YtmehcogaopackaaGreatGQ
import Derived.Test.YtmehcogaopackaaGreatGJ
namespace Go.Proofs.YtmehcogaopackaaGreat
open Go.RowKit
set_option linter.unusedVariables false
set_option linter.unusedSimpArgs false
set_option maxHeartbeats 1000000 in
theorem few_any (n : Nat) (W : World) : Calls Tryz.prog 58 #[.int .i64 (n : Nat)] W fun e W' => e = .returned (.int .i64 ((min n 1048576 : Nat) : Int)) ∧ Below W.heap.size W W' := by
  have hm : min (n : Int) 1048576 = ((min n 1048576 : Nat) : Int) := by omega
  go_enter Tryz.func58, Tryz.ntmps58
  go_wp2_with fail
  go_ret
  exact ⟨by first | rfl | simp, Below.refl _ _⟩
/-- two entries -/
def twoEn : List En := [⟨1, 1, []⟩, ⟨1, 3, [120]⟩]
set_option maxRecDepth 100000 in
set_option maxHeartbeats 1000000 in
theorem two_any (W : World) : Calls Tryz.prog 25 #[] W fun e W' => e = .returned (.slice (some ⟨W.heap.size, 0, none⟩) 2 2) ∧ W' = W.alloc (.cells #[.int .u64 1, .int .i64 1, .string { data := #[] }, .int .u64 1, .int .i64 3, .string { data := #[120] }] 116) := by
  go_enter Tryz.func25, Tryz.ntmps25
  go_wp2_with fail
  go_ret
  exact ⟨rfl, rfl⟩
theorem two_cells (W : World) (G : List Nat) (hG : W.heap.size ∉ G) : Cells G (W.alloc (.cells #[.int .u64 1, .int .i64 1, .string { data := #[] }, .int .u64 1, .int .i64 3, .string { data := #[120] }] 116)) (.slice (some ⟨W.heap.size, 0, none⟩) 2 2) twoEn.length (enVals twoEn) := by
  refine ⟨some ⟨W.heap.size, 0, none⟩, 2, rfl, Nat.le_refl _, fun _ => ⟨W.heap.size, 0, rfl, hG, fun j hj => ?_⟩⟩
  rw [Nat.zero_add]
  refine cell_in (heap_alloc_new W _) j _ ?_
  have h6 : j < 6 := hj
  rcases (by omega : j = 0 ∨ j = 1 ∨ j = 2 ∨ j = 3 ∨ j = 4 ∨ j = 5) with rfl | rfl | rfl | rfl | rfl | rfl <;> rfl
/-- how much a call weighs -/
def fewData (l : List En) : Nat := (l.map fun e => min e.data.length 1048576).sum
def Ac.weight (a : Ac) : Nat := min a.image.length 1048576 + 40 * a.log.l.length + 10 * a.log.conf.length + fewData a.log.l
/-- a script that is not great -/
def ScriptOk (l : List Ac) : Prop := l.length ≤ 60 ∧ ∀ a ∈ l, a.log.l.length ≤ 1000 ∧ a.log.conf.length ≤ 1000 ∧ a.image.length ≤ 65536 ∧ ∀ e ∈ a.log.l, e.data.length ≤ 65536
theorem fewData_mem : ∀ (l : List En) (e : En), e ∈ l → min e.data.length 1048576 ≤ fewData l
  | a :: l, e, he => by
    unfold fewData
    rw [List.map_cons, List.sum_cons]
    rcases List.mem_cons.1 he with rfl | he
    · omega
    · have := fewData_mem l e he
      unfold fewData at this
      omega
theorem weight_mem : ∀ (l : List Ac) (a : Ac), a ∈ l → a.weight ≤ (l.map Ac.weight).sum
  | b :: l, a, ha => by
    rw [List.map_cons, List.sum_cons]
    rcases List.mem_cons.1 ha with rfl | ha
    · omega
    · have := weight_mem l a ha
      omega
theorem ScriptOk.of {l : List Ac} (h1 : l.length ≤ 60) (h2 : ∀ a ∈ l, a.log.l.length ≤ 1000 ∧ a.log.conf.length ≤ 1000) (h3 : (l.map Ac.weight).sum ≤ 65536) : ScriptOk l := by
  refine ⟨h1, fun a ha => ⟨(h2 a ha).1, (h2 a ha).2, ?_, fun e he => ?_⟩⟩
  · have h4 := weight_mem l a ha
    have h5 : a.weight = min a.image.length 1048576 + 40 * a.log.l.length + 10 * a.log.conf.length + fewData a.log.l := rfl
    omega
  · have h4 := weight_mem l a ha
    have h5 : a.weight = min a.image.length 1048576 + 40 * a.log.l.length + 10 * a.log.conf.length + fewData a.log.l := rfl
    have h6 := fewData_mem a.log.l e he
    omega
theorem fewData_le (l : List En) : fewData l ≤ 1048576 * l.length := by
  induction l with
  | nil => simp [fewData]
  | cons a l ih =>
    unfold fewData at *
    rw [List.map_cons, List.sum_cons, List.length_cons]
    omega
theorem fewData_snoc (l : List En) (k : Nat) (hk : k < l.length) : fewData (l.take (k + 1)) = fewData (l.take k) + min l[k].data.length 1048576 := by
  have ht : l.take (k + 1) = l.take k ++ [l[k]] := by rw [List.take_add_one, List.getElem?_eq_getElem hk]; rfl
  unfold fewData
  rw [ht, List.map_append, List.sum_append]
  simp
theorem weight_snoc (l : List Ac) (k : Nat) (hk : k < l.length) : ((l.take (k + 1)).map Ac.weight).sum = ((l.take k).map Ac.weight).sum + l[k].weight := by
  have ht : l.take (k + 1) = l.take k ++ [l[k]] := by rw [List.take_add_one, List.getElem?_eq_getElem hk]; rfl
  rw [ht, List.map_append, List.sum_append]
  simp
theorem weight_le {a : Ac} (h1 : a.log.l.length ≤ 1000) (h2 : a.log.conf.length ≤ 1000) : a.weight ≤ 1050000000 := by
  have := fewData_le a.log.l
  have : 1048576 * a.log.l.length ≤ 1048576 * 1000 := Nat.mul_le_mul_left _ h1
  unfold Ac.weight
  omega
theorem weights_le : ∀ (l : List Ac), (∀ a ∈ l, a.log.l.length ≤ 1000 ∧ a.log.conf.length ≤ 1000) → (l.map Ac.weight).sum ≤ 1050000000 * l.length
  | [], _ => by simp
  | a :: l, h => by
    have h1 := weights_le l (fun b hb => h b (List.mem_cons_of_mem _ hb))
    have h2 := weight_le (h a (List.mem_cons_self ..)).1 (h a (List.mem_cons_self ..)).2
    rw [List.map_cons, List.sum_cons, List.length_cons]
    omega
/-- how great ends -/
def GreatPost (l : List Ac) (W : World) (e : Ending) (W' : World) : Prop := ∃ g : Bool, e = .returned (.bool g) ∧ (g = false → ScriptOk l) ∧ Below W.heap.size W W'
/-- cells from a place on -/
def Sg (W : World) (b o : Nat) (xs : List Value) : Prop := ∀ k u, xs[k]? = some u → W.cell? ⟨b, o + k, none⟩ = some u
set_option maxRecDepth 100000 in
set_option maxHeartbeats 8000000 in
theorem great_any (l : List Ac) (v : Value) (W : World) (hv : AcsArg l v W) : Calls Tryz.prog 17 #[v] W fun e W' => GreatPost l W e W' := by
  obtain ⟨x, cap, rfl, hcap, hmax, hx⟩ := hv
  have HX := hid hx
  unfold maxLen at hmax
  clear hx
  by_cases hl : 60 < l.length
  · as_aux_lemma =>
    have hli : (60 : Int) < (l.length : Int) := by omega
    go_enter Tryz.func17, Tryz.ntmps17
    go_wp2_with fail
    go_ret
    exact ⟨true, rfl, (fun h => by cases h), Below.refl _ _⟩
  · have hli : ¬ ((60 : Int) < (l.length : Int)) := by omega
    go_enter Tryz.func17, Tryz.ntmps17
    go_wp2_with fail
    go_loopw [3, 4] (fun s i wr => ∃ q : Nat, i = .int .i64 q ∧ s = .int .i64 ((((l.take q).map Ac.weight).sum : Nat) : Int) ∧ q ≤ l.length ∧ Below W.heap.size W wr ∧ Hid (∀ a ∈ l.take q, a.log.l.length ≤ 1000 ∧ a.log.conf.length ≤ 1000)) (fun _ i _ => l.length - (intOf i).toNat)
    case atStart => exact ⟨0, rfl, rfl, Nat.zero_le _, Below.refl _ _, fun a ha => by simp at ha⟩
    case round =>
      obtain ⟨q, rfl, rfl, hq, hb, HA⟩ := hrel
      have HB := hid hb
      clear hb
      by_cases hlt : q < l.length
      · obtain ⟨b, off, rfl, hj⟩ := HX.out (by omega)
        obtain ⟨vc, vl, harg, hcell⟩ := hj q hlt
        have HS := hid (weight_snoc l q hlt)
        have HAM : Hid (∀ c ∈ l.take (q + 1), c ∈ l.take q ∨ c = l[q]) := hid (fun c hc => by
          have ht : l.take (q + 1) = l.take q ++ [l[q]] := by rw [List.take_add_one, List.getElem?_eq_getElem hlt]; rfl
          rw [ht] at hc
          rcases List.mem_append.1 hc with hc | hc
          · exact .inl hc
          · exact .inr (List.mem_singleton.1 hc))
        have hw := weights_le (l.take q) HA.out
        rw [List.length_take, Nat.min_eq_left hq] at hw
        obtain ⟨ac, cc, rfl⟩ := harg.1.form
        obtain ⟨al, cl, rfl⟩ := harg.2.1.form
        have hbl : b < W.heap.size := World.block_lt_of_cell? _ _ (hcell 0 _ rfl)
        have HCE : Hid (∀ W1 : World, Below W.heap.size W W1 → ∀ k u, (l[q].vals (.slice ac l[q].log.conf.length cc) (.slice al l[q].log.l.length cl))[k]? = some u → W1.cell? ⟨b, off + q * 11 + k, none⟩ = some u) := hid (fun W1 hb1 k u hu => (World.cell?_of_block (hb1.block b hbl)).trans (hcell k u hu))
        have HARG := hid harg
        have e8 := HCE.out wr HB.out 8 _ rfl
        have e9 := HCE.out wr HB.out 9 _ rfl
        have g8 : off + q * 11 + 6 + 2 = off + q * 11 + 8 := by omega
        have g9 : off + q * 11 + 6 + 3 = off + q * 11 + 9 := by omega
        generalize hN : ((l.take q).map Ac.weight).sum = N at *
        generalize hM : ((l.take (q + 1)).map Ac.weight).sum = M at *
        clear hj hcell harg
        generalize l[q] = a at *
        by_cases h1 : 1000 < a.log.l.length
        · as_aux_lemma =>
          have h1i : (1000 : Int) < (a.log.l.length : Int) := by omega
          go_wp2_with fail
          go_ret
          exact ⟨true, rfl, (fun h => by cases h), HB.out⟩
        · have h1i : ¬ ((1000 : Int) < (a.log.l.length : Int)) := by omega
          by_cases h2 : 1000 < a.log.conf.length
          · as_aux_lemma =>
            have h2i : (1000 : Int) < (a.log.conf.length : Int) := by omega
            go_wp2_with fail
            go_ret
            exact ⟨true, rfl, (fun h => by cases h), HB.out⟩
          · have h2i : ¬ ((1000 : Int) < (a.log.conf.length : Int)) := by omega
            go_upto_region 9 with fail
            have hd := fewData_le a.log.l
            have hdm : 1048576 * a.log.l.length ≤ 1048576 * 1000 := Nat.mul_le_mul_left _ (by omega)
            have HWT := hid (show a.weight = min a.image.length 1048576 + 40 * a.log.l.length + 10 * a.log.conf.length + fewData a.log.l from rfl)
            have hE0 : Sg wr.drew b (off + q * 11) (a.vals (.slice ac a.log.conf.length cc) (.slice al a.log.l.length cl)) := HCE.out wr HB.out
            have HCO : Hid (∀ W' : World, Sg W' b (off + q * 11) (a.vals (.slice ac a.log.conf.length cc) (.slice al a.log.l.length cl)) → W'.cell? ⟨b, off + q * 11 + 8, none⟩ = some (.slice ac a.log.conf.length cc) ∧ W'.cell? ⟨b, off + q * 11 + 9, none⟩ = some (.slice al a.log.l.length cl) ∧ W'.cell? ⟨b, off + q * 11 + 10, none⟩ = some (.string (str a.image))) := fun W' h => ⟨h 8 _ rfl, h 9 _ rfl, h 10 _ rfl⟩
            have hzi : (str a.image).size = a.image.length := str_size _
            clear e8 e9
            generalize hfw : min a.image.length 1048576 = fw at *
            go_region_held3 (fun W' => W'.cell? ⟨b, off + q * 11 + 8, none⟩ = some (.slice ac a.log.conf.length cc) ∧ W'.cell? ⟨b, off + q * 11 + 9, none⟩ = some (.slice al a.log.l.length cl) ∧ W'.cell? ⟨b, off + q * 11 + 10, none⟩ = some (.string (str a.image))) (exact HCO.out _ (by assumption))
              ((go_at_call 58; refine Calls.mono (few_any a.image.length _) ?_; rintro e w2 ⟨rfl, hb2⟩; have hB2 : Below W.heap.size W w2 := HB.out.trans ((⟨hb2.os, hb2.tape, hb2.output, hb2.size, hb2.block⟩ : Below wr.heap.size wr w2).mono HB.out.size); have hE2 : Sg w2 b (off + q * 11) (a.vals (.slice ac a.log.conf.length cc) (.slice al a.log.l.length cl)) := HCE.out w2 hB2))
            have hwr : IntKind.i64.wrap (IntKind.i64.wrap (IntKind.i64.wrap ((N : Int) + (fw : Int)) + IntKind.i64.wrap (40 * (a.log.l.length : Int))) + IntKind.i64.wrap (10 * (a.log.conf.length : Int))) = ((N + fw + 40 * a.log.l.length + 10 * a.log.conf.length : Nat) : Int) := by
              have hfl : fw ≤ 1048576 := by omega
              rw [IntWalk.i64_in ((N : Int) + (fw : Int)) (by omega), IntWalk.i64_in (40 * (a.log.l.length : Int)) (by omega), IntWalk.i64_in (10 * (a.log.conf.length : Int)) (by omega), IntWalk.i64_in (((N : Int) + (fw : Int)) + 40 * (a.log.l.length : Int)) (by omega), IntWalk.i64_in _ (by omega)]
              omega
            rw [hwr]
            have hfl : fw ≤ 1048576 := by omega
            generalize hbase : N + fw + 40 * a.log.l.length + 10 * a.log.conf.length = bs at *
            have hbs : bs ≤ 64000000000 := by omega
            have HB2 := hid hB2
            have HEL := hid (HARG.out.2.1.at).2.2
            clear hE0 hE2 hb2 hwr hB2
            go_wp2_with fail
            go_loopw [3, 5] (fun s3 i wi => ∃ k : Nat, i = .int .i64 k ∧ s3 = .int .i64 ((bs + fewData (a.log.l.take k) : Nat) : Int) ∧ k ≤ a.log.l.length ∧ Below W.heap.size W wi) (fun _ i _ => a.log.l.length - (intOf i).toNat)
            case atStart => exact ⟨0, rfl, by simp [fewData], Nat.zero_le _, HB2.out⟩
            case round =>
              obtain ⟨k, rfl, rfl, hk, hbi⟩ := hrel
              have HBI := hid hbi
              have e9 := HCE.out wr hbi 9 _ rfl
              have g9 : off + q * 11 + 6 + 3 = off + q * 11 + 9 := by omega
              have hdk := fewData_le (a.log.l.take k)
              have hdk2 : 1048576 * (a.log.l.take k).length ≤ 1048576 * 1000 := Nat.mul_le_mul_left _ (by rw [List.length_take]; omega)
              clear hbi
              by_cases hkt : k < a.log.l.length
              · as_aux_lemma =>
                obtain ⟨b1, o1, rfl, hec⟩ := HEL.out (by rw [enVals_len]; omega)
                have hd2 := hec wr HBI.out _ _ (enVals_cell a.log.l k hkt).2.2
                have HFS := hid (fewData_snoc a.log.l k hkt)
                have m1 : o1 + k * 3 = o1 + 3 * k := by omega
                have m2 : o1 + 3 * k + 2 = o1 + (3 * k + 2) := by omega
                clear hec
                generalize a.log.l[k] = ent at *
                generalize fewData (a.log.l.take k) = fd at *
                have hzd : (str ent.data).size = ent.data.length := str_size _
                go_wp2_with fail
                refine Calls.mono (few_any ent.data.length _) ?_
                rintro e w3 ⟨rfl, hb3⟩
                have HB3 := hid (HBI.out.trans (hb3.mono HBI.out.size))
                have hfm : min ent.data.length 1048576 ≤ 1048576 := Nat.min_le_right _ _
                generalize min ent.data.length 1048576 = fe at *
                have hws : IntKind.i64.wrap (((bs + fd : Nat) : Int) + (fe : Int)) = ((bs + (fd + fe) : Nat) : Int) := by rw [IntWalk.i64_in _ (by omega)]; omega
                clear hb3
                go_wp2_with fail
                go_roundw
                case rel => exact ⟨k + 1, by go_num, by rw [HFS.out]; go_num, by omega, HB3.out⟩
                case measure => simp [intOf]; omega
              · obtain rfl : k = a.log.l.length := by omega
                rw [List.take_length] at *
                have HSM := hid (show M = bs + fewData a.log.l by rw [HS.out, HWT.out]; omega)
                have HAM2 : Hid (∀ c ∈ l.take (q + 1), c.log.l.length ≤ 1000 ∧ c.log.conf.length ≤ 1000) := hid (fun c hc => by
                  rcases HAM.out c hc with h | rfl
                  · exact HA.out c h
                  · exact ⟨by omega, by omega⟩)
                go_wp2_with fail
                exact ⟨⟨q + 1, by go_num, by rw [hM, HSM.out], by omega, HBI.out, HAM2.out⟩, by simp [intOf]; omega⟩
      · obtain rfl : q = l.length := by omega
        rw [List.take_length] at *
        have hw := weights_le l HA.out
        generalize hN : (l.map Ac.weight).sum = N at *
        go_wp2_with fail
        go_ret
        refine ⟨_, rfl, fun h => ScriptOk.of (by omega) HA.out ?_, HB.out⟩
        rw [hN]
        have h9 := of_decide_eq_false h
        omega
end Go.Proofs.YtmehcogaopackaaGreat
