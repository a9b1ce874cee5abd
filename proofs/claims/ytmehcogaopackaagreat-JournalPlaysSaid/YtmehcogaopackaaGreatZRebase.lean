/-
  The walk of the reference journal's Rebase.
-/
import Derived.Test.YtmehcogaopackaaGreatZAppend
import Derived.Test.YtmehcogaopackaaGreatJRebase
namespace Go.Proofs.YtmehcogaopackaaGreat
open Go.RowKit
set_option linter.unusedVariables false
set_option linter.unusedSimpArgs false
theorem fileB_len2 {S : Js} (h : JsOk S) (hl : S.log.l.length ≤ 1000000) : (fileB S).length ≤ 549755813888 := by
  have hc := members_len _ h.2.2.2.2.2.1
  have hb : (frame (baseBody S.log S.image.length)).length ≤ 70000 := by
    rw [frame_length]
    unfold baseBody nums
    simp only [List.length_append]
    have e1 := num_len 1
    have e2 := num_len S.log.base
    have e3 := num_len S.log.bterm
    have e4 := num_len (S.log.conf.map Int.toNat).length
    have e5 := flat_len (S.log.conf.map Int.toNat)
    have e6 := num_len S.image.length
    rw [List.length_map] at e4 e5
    simp only [List.length_map]
    omega
  have h1 : ∀ x ∈ fileL S, x.length ≤ 70000 := by
    intro x hx
    unfold fileL at hx
    rcases List.mem_cons.1 hx with rfl | hx
    · exact hb
    · rcases List.mem_append.1 hx with hx | hx
      · simp only [List.mem_map] at hx
        obtain ⟨p, hp, rfl⟩ := hx
        exact pieceRec_len p (chunks_le S.image.length S.image (Nat.le_refl _) p hp)
      · rcases List.mem_cons.1 hx with rfl | hx
        · exact hardRec_len _
        · exact entRecs_le _ _ (fun e he => mayEn_data (h.2.2.2.2.2.2.1 e he).2) x hx
  have h2 := flatten_le 70000 (fileL S) h1
  have h3 : (fileL S).length ≤ 2 + 262144 + 1000000 := by
    unfold fileL
    simp only [List.length_cons, List.length_append, List.length_map]
    have := chunks_len S.image.length S.image (Nat.le_refl _)
    have := entRecs_length S.log.l (S.log.base + 1)
    have := h.2.2.2.2.2.2.2
    omega
  have h4 : 70000 * (fileL S).length ≤ 70000 * (2 + 262144 + 1000000) := Nat.mul_le_mul_left _ h3
  unfold fileB
  omega

theorem rfile_js {S : Js} (h : JsOk S) (hl : S.log.l.length ≤ 1000000) (vc vl : Value) (w : World) (hc : Cells [] w vc S.log.conf.length (intVals S.log.conf)) (hv : Cells [] w vl S.log.l.length (enVals S.log.l)) :
    Calls Tryz.prog 50 #[.agg (toldCells S vc vl)] w fun e w' => e = .returned (.string (str (fileB S))) ∧ Below w.heap.size w w' := by
  obtain ⟨⟨t, v, lf⟩, ⟨b, bt, conf, l⟩, im⟩ := S
  obtain ⟨h1, h2, h3, h4, h5, h6, h7, h8⟩ := h
  simp only at h1 h2 h3 h4 h5 h6 h7 h8 hl hc hv
  obtain ⟨ns, rfl, hn1, hn2⟩ := conf_nats h6
  obtain ⟨vn, rfl⟩ := Int.eq_ofNat_of_zero_le h2.1
  rw [List.length_map] at hc
  have h := rfile_at t vn lf b bt ns l im _ (hid rfl) vc vl w hc hv h1 (by omega) h3 h4 h5 hn1 hn2 hl h7 h8
  unfold toldCells
  simp only [List.length_map] at h ⊢
  exact h
/-- the journal's cells, and the box of a state -/
def RwAt (j x : Nat) (jc xc : Array Value) (W : World) : Prop := W.heap[j]? = some (.cells jc 54) ∧ W.heap[x]? = some (.cells xc 51)
theorem RwAt.turn {j x : Nat} {jc xc : Array Value} {W W' : World} (h : RwAt j x jc xc W) {F : List Nat} (t : Turn F W W') (h1 : j ∉ F) (h2 : x ∉ F) : RwAt j x jc xc W' :=
  ⟨(t.block (Array.getElem?_eq_some_iff.1 h.1).1 h1).trans h.1, (t.block (Array.getElem?_eq_some_iff.1 h.2).1 h2).trans h.2⟩
set_option maxRecDepth 100000 in
set_option maxHeartbeats 8000000 in
theorem rrebase_any {G : List Nat} {W : World} {j p : Nat} {d : Ds} {S : Js} (h : RjAt G W j p d S) {n : Nat} (hok : d.Ok n) (hn : n ≤ 900000) (hG : ∀ b ∈ G, b < W.heap.size) (base bterm : Nat) (conf : List Int) (l : List En) (image : Bytes) (vc vl : Value)
    (hb : base < top64) (hbt : bterm < top64) (hvc : Cells [] W vc conf.length (intVals conf)) (hvl : Cells [] W vl l.length (enVals l)) (hc : conf.length ≤ 1000) (hl : l.length ≤ 1000) (he : ∀ e ∈ l, e.term < top64 ∧ e.data.length ≤ 1048576) (him : image.length ≤ 1048576) :
    Calls Tryz.prog 62 #[.pointer (some ⟨j, 0, none⟩), .agg #[.int .u64 base, .int .u64 bterm, vc, vl], .string (str image)] W fun e W' => e = .returned (.int .i64 ((jRebase d S ⟨base, bterm, conf, l⟩ image).2.2 : Nat)) ∧ RjAt G W' j p (jRebase d S ⟨base, bterm, conf, l⟩ image).1 (jRebase d S ⟨base, bterm, conf, l⟩ image).2.1 ∧ Turn [j, p] W W' := by
  obtain ⟨ac, cc, rfl⟩ := hvc.form
  obtain ⟨al, cl, rfl⟩ := hvl.form
  have hjl := h.jlt
  have hpl := h.rd.lt
  have HGG : Hid (∀ b ∈ j :: G, b < W.heap.size) := fun b hb => by
    rcases List.mem_cons.1 hb with rfl | hb
    · exact hjl
    · exact hG b hb
  have HGD : Hid (∀ b ∈ j :: p :: G, b < W.heap.size) := fun b hb => by
    rcases List.mem_cons.1 hb with rfl | hb
    · exact hjl
    · rcases List.mem_cons.1 hb with rfl | hb
      · exact hpl
      · exact hG b hb
  have hb0 := boxLog W #[.int .u64 base, .int .u64 bterm, .slice ac conf.length cc, .slice al l.length cl]
  have hk0 := heap_alloc_new W (.cells #[.int .u64 base, .int .u64 bterm, .slice ac conf.length cc, .slice al l.length cl] 49)
  have HMB := hid (rmembers_any conf _ [] _ (hvc.below hb0) (by omega))
  have hzi : (str image).size = image.length := str_size _
  have HJB := hid (fun (hb : logBad ⟨base, bterm, conf, l⟩ image) => show jRebase d S ⟨base, bterm, conf, l⟩ image = (d, S, 1) from if_pos hb)
  have HJG := hid (fun (hb : ¬ logBad ⟨base, bterm, conf, l⟩ image) => show jRebase d S ⟨base, bterm, conf, l⟩ image = if (Ds.sync' (d.puts (fileB ⟨S.hard, ⟨base, bterm, conf, l⟩, image⟩))).2 ≠ 0 then ((Ds.sync' (d.puts (fileB ⟨S.hard, ⟨base, bterm, conf, l⟩, image⟩))).1, S, (Ds.sync' (d.puts (fileB ⟨S.hard, ⟨base, bterm, conf, l⟩, image⟩))).2) else
    ((Ds.sync' (d.puts (fileB ⟨S.hard, ⟨base, bterm, conf, l⟩, image⟩))).1, ⟨S.hard, ⟨base, bterm, conf, l⟩, image⟩, 0) from if_neg hb)
  have c0 := cell_in hk0 0 (.int .u64 base) rfl
  have c2 := cell_in hk0 2 (.slice ac conf.length cc) rfl
  have HK0 := hid hk0
  have HB0 := hid hb0
  have HT0 : Hid (Turn [j, p] W (W.alloc (.cells #[.int .u64 base, .int .u64 bterm, .slice ac conf.length cc, .slice al l.length cl] 49))) := hid ((Turn.below (F := []) hb0).mono (by simp))
  have H := hid (h.below hb0)
  have HVC := hid (hvc.below hb0)
  have HVL := hid (hvl.below hb0)
  have HE := hid he
  have HZ0 : Hid (W.heap.size < (W.alloc (.cells #[.int .u64 base, .int .u64 bterm, .slice ac conf.length cc, .slice al l.length cl] 49)).heap.size) := hid (by rw [World.size_alloc]; omega)
  clear h hb0 hk0 hvc hvl he hjl hpl hG
  go_enter Tryz.func62, Tryz.ntmps62
  go_wp2_with fail
  generalize W.alloc (.cells #[.int .u64 base, .int .u64 bterm, .slice ac conf.length cc, .slice al l.length cl] 49) = W0 at *
  obtain ⟨g, hge⟩ : ∃ g, g = W.heap.size := ⟨_, rfl⟩
  have HGE := hid hge
  rw [← hge] at HK0 c0 c2 ⊢
  clear hge
  refine Calls.mono HMB.out ?_
  rintro e w1 ⟨rfl, hb1⟩
  have HK1 := hid (blk_below HK0.out hb1)
  have H1 := hid (H.out.below hb1)
  have HVC1 := hid (HVC.out.below hb1)
  have HVL1 := hid (HVL.out.below hb1)
  have HT1 := hid (HT0.out.trans ((Turn.below (F := []) hb1).mono (G := [j, p]) (by simp)) (fun b hb => .inl hb))
  have HZ1 : Hid (W.heap.size < w1.heap.size) := hid (Nat.lt_of_lt_of_le HZ0.out hb1.size)
  clear hb1 c2 HMB H HVC HVL HT0 HZ0 HK0
  have c0 := cell_in HK1.out 0 (.int .u64 base) rfl
  cases hm : members conf
  · as_aux_lemma =>
    have HR := hid (HJB.out (.inl hm))
    go_wp2_with fail
    go_ret
    rw [HR.out]
    exact ⟨rfl, H1.out, HT1.out⟩
  by_cases hbb : 4611686018427387904 < base
  · as_aux_lemma =>
    have hbi : (4611686018427387904 : Int) < (base : Int) := by omega
    have HR := hid (HJB.out (.inr (.inl hbb)))
    go_wp2_with fail
    go_ret
    rw [HR.out]
    exact ⟨rfl, H1.out, HT1.out⟩
  have hbi : ¬ ((4611686018427387904 : Int) < (base : Int)) := by omega
  by_cases hib : 262144 < image.length
  · as_aux_lemma =>
    have hii : (262144 : Int) < (image.length : Int) := by omega
    have HR := hid (HJB.out (.inr (.inr (.inl hib))))
    go_wp2_with fail
    go_ret
    rw [HR.out]
    exact ⟨rfl, H1.out, HT1.out⟩
  have hii : ¬ ((262144 : Int) < (image.length : Int)) := by omega
  go_wp2_with fail
  go_loopw [7] (fun i wr => ∃ q : Nat, i = .int .i64 q ∧ q ≤ l.length ∧ Below w1.heap.size w1 wr ∧ Hid (∀ e ∈ l.take q, mayEn e = true)) (fun i _ => l.length - (intOf i).toNat)
  case atStart => exact ⟨0, rfl, Nat.zero_le _, Below.refl _ _, fun e he => by simp at he⟩
  case round =>
  obtain ⟨q, rfl, hq, hb2, HM⟩ := hrel
  have HK2 := hid (blk_below HK1.out hb2)
  have H2 := hid (H1.out.below hb2)
  have HVC2 := hid (HVC1.out.below hb2)
  have HVL2 := hid (HVL1.out.below hb2)
  have HT2 := hid (HT1.out.trans ((Turn.below (F := []) hb2).mono (G := [j, p]) (by simp)) (fun b hb => .inl hb))
  have HZ2 : Hid (W.heap.size < wr.heap.size) := hid (Nat.lt_of_lt_of_le HZ1.out hb2.size)
  have HQ2 := hid hb2
  clear hb2
  have c3 := cell_in HK2.out 3 (.slice al l.length cl) rfl
  by_cases hlt : q < l.length
  · as_aux_lemma =>
    obtain ⟨b, off, rfl, hcell⟩ := HVL2.out.at.2.2 (by rw [enVals_len]; omega)
    have hx0 := hcell wr (Below.refl _ _) _ _ (enVals_at l q hlt).1
    have hx1 := hcell wr (Below.refl _ _) _ _ (enVals_at l q hlt).2.1
    have hx2 := hcell wr (Below.refl _ _) _ _ (enVals_at l q hlt).2.2
    rw [show off + (q * 3 + 1) = off + q * 3 + 1 by omega] at hx1
    rw [show off + (q * 3 + 2) = off + q * 3 + 2 by omega] at hx2
    have HME := hid (rmay_en l[q] (by have := (HE.out _ (List.getElem_mem hlt)).2; unfold maxLen; omega) wr)
    have HTM : Hid (mayEn l[q] = true → ∀ e ∈ l.take (q + 1), mayEn e = true) := hid (fun hm e he => by
      rw [List.take_succ_eq_append_getElem hlt] at he
      rcases List.mem_append.1 he with he | he
      · exact HM.out e he
      · rw [List.mem_singleton.1 he]; exact hm)
    have HTB : Hid (mayEn l[q] = false → anyBad l = true) := hid (fun hm => by
      unfold anyBad
      rw [List.any_eq_true]
      exact ⟨l[q], List.getElem_mem hlt, by simp [hm]⟩)
    clear hcell
    generalize l[q] = en at *
    go_wp2_with fail
    refine Calls.mono HME.out ?_
    rintro e w2 ⟨rfl, hb2⟩
    have H3 := hid (H2.out.below hb2)
    have HT3 := hid (HT2.out.trans ((Turn.below (F := []) hb2).mono (G := [j, p]) (by simp)) (fun b hb => .inl hb))
    have HQ3 := hid (HQ2.out.trans (hb2.mono HQ2.out.size))
    clear hb2 hx0 hx1 hx2
    generalize hme : mayEn en = me at *
    cases me
    · have HR := hid (HJB.out (.inr (.inr (.inr (HTB.out (by first | rfl | trivial))))))
      go_wp2_with fail
      go_ret
      rw [HR.out]
      exact ⟨rfl, H3.out, HT3.out⟩
    · go_wp2_with fail
      go_roundw
      case rel => exact ⟨q + 1, by go_num, by omega, HQ3.out, HTM.out (by first | rfl | trivial)⟩
      case measure => simp [intOf]; omega
  obtain rfl : q = l.length := by omega
  have HG : Hid (∀ e ∈ l, mayEn e = true) := hid (fun e he => HM.out e (by rw [List.take_length]; exact he))
  have hnb : anyBad l = false := by
    unfold anyBad
    rw [List.any_eq_false]
    intro e he
    simp [HG.out e he]
  have HR := hid (HJG.out (by unfold logBad; simp only [not_or]; exact ⟨by simp [hm], hbb, hib, by simp [hnb]⟩))
  have HJO := hid H2.out.ok.1
  have HOK : Hid (JsOk ⟨S.hard, ⟨base, bterm, conf, l⟩, image⟩) := hid ⟨HJO.out.1, HJO.out.2.1, HJO.out.2.2.1, by show base ≤ _; omega, hbt, hm, fun e he => ⟨(HE.out e he).1, HG.out e he⟩, by show image.length ≤ _; omega⟩
  have HFL := hid (fileB_len2 (S := ⟨S.hard, ⟨base, bterm, conf, l⟩, image⟩) HOK.out (by show l.length ≤ _; omega))
  clear hq hlt HM HJB HJG hnb hbb hbi hib hii hm c0 HK1 H1 HVC1 HVL1 HT1 HZ1 HQ2
  as_aux_lemma =>
  obtain ⟨vcj, vlj, g1, _, _⟩ := H2.out.cells
  have HG1 := hid g1
  have e1 := cell_in g1 1 (.int .u64 S.hard.term) rfl
  have e2 := cell_in g1 2 (.int .i64 S.hard.vote) rfl
  have e3 := cell_in g1 3 (.int .u64 S.hard.life) rfl
  clear g1
  have b0 := cell_in (blk_below HK2.out ((Below.refl _ _).alloc (Nat.le_refl _) (.cells #[.int .u64 S.hard.term, .int .i64 S.hard.vote, .int .u64 S.hard.life, .int .u64 0, .int .u64 0, .slice none 0 0, .slice none 0 0, .string (str image)] 51))) 0 (.int .u64 base) rfl
  have b1 := cell_in (blk_below HK2.out ((Below.refl _ _).alloc (Nat.le_refl _) (.cells #[.int .u64 S.hard.term, .int .i64 S.hard.vote, .int .u64 S.hard.life, .int .u64 0, .int .u64 0, .slice none 0 0, .slice none 0 0, .string (str image)] 51))) 1 (.int .u64 bterm) rfl
  go_upto_region 10 with fail
  have hb3 : Below wr.heap.size wr (wr.alloc (.cells #[.int .u64 S.hard.term, .int .i64 S.hard.vote, .int .u64 S.hard.life, .int .u64 base, .int .u64 bterm, .slice none 0 0, .slice none 0 0, .string (str image)] 51)) := (Below.refl _ _).alloc (Nat.le_refl _) _
  have HX3 := hid (heap_alloc_new wr (.cells #[.int .u64 S.hard.term, .int .i64 S.hard.vote, .int .u64 S.hard.life, .int .u64 base, .int .u64 bterm, .slice none 0 0, .slice none 0 0, .string (str image)] 51))
  have HG3 := hid (blk_below HK2.out hb3)
  have HB3 := hid hb3
  have HZ3 : Hid (wr.heap.size < (wr.alloc (.cells #[.int .u64 S.hard.term, .int .i64 S.hard.vote, .int .u64 S.hard.life, .int .u64 base, .int .u64 bterm, .slice none 0 0, .slice none 0 0, .string (str image)] 51)).heap.size) := hid (by rw [World.size_alloc]; omega)
  clear hb3 b0 b1 e1 e2 e3
  generalize wr.alloc (.cells #[.int .u64 S.hard.term, .int .i64 S.hard.vote, .int .u64 S.hard.life, .int .u64 base, .int .u64 bterm, .slice none 0 0, .slice none 0 0, .string (str image)] 51) = w3 at *
  obtain ⟨x, hxe⟩ : ∃ x, x = wr.heap.size := ⟨_, rfl⟩
  have HXE := hid hxe
  rw [← hxe] at HX3 ⊢
  clear hxe
  as_aux_lemma =>
  go_cut [8] from 10 (fun s8 w4 => s8 = .pointer (some ⟨x, 0, none⟩) ∧ ∃ (a5 : Option Addr) (k5 : Nat), w4.heap[x]? = some (.cells #[.int .u64 S.hard.term, .int .i64 S.hard.vote, .int .u64 S.hard.life, .int .u64 base, .int .u64 bterm, .slice a5 conf.length k5, .slice none 0 0, .string (str image)] 51) ∧ w4.ownsRow wr.heap.size 3 1 (.slice a5 conf.length k5) conf.length (intVals conf) ∧ Below wr.heap.size wr w4)
  case first =>
    obtain ⟨i0, hi0, hz0, hz1, hz2⟩ := info_parts infoInt1
    have c2 := cell_in HG3.out 2 (.slice ac conf.length cc) rfl
    have d5 := cell_in HX3.out 5 (.slice none 0 0) rfl
    have HVL := hid (HVC2.out.below HB3.out)
    have hwz : wr.heap.size ≤ w3.heap.size := HB3.out.size
    cases ac with
    | none =>
      have hL0 : conf = [] := by
        obtain ⟨_, _, hx⟩ := HVL.out.at
        cases hLL : conf with
        | nil => rfl
        | cons e rr =>
          obtain ⟨b, o, h1, _⟩ := hx (by rw [intVals_len, hLL]; simp)
          cases h1
      have HL0 := hid hL0
      have f5 := free_in HX3.out 5
      have hlz : conf.length = 0 := by rw [hL0]; rfl
      clear hL0
      go_wp2_with fail
      go_meet
      case rel =>
        rw [HL0.out]
        exact ⟨rfl, none, 0, heap_set HX3.out 5 _, World.ownsRow_nil _ _ _ _, HB3.out.trans ((Turn.set (F := [x]) w3 x 5 _ (by simp)).toBelow hwz (by intro b hb; rw [List.mem_singleton.1 hb, HXE.out]; exact Nat.le_refl _))⟩
    | some ad =>
      go_wp2_with (at_builtin; refine wpList_append_own _ rfl _ _ 46 rfl wr.heap.size 3 i0 (.int .i64 0) 1 8 Tryz.underlying46 hi0 hz0 hz1 hz2 rfl (by decide) _ _ _ rfl (World.ownsRow_nil _ _ _ _) ad conf.length cc (intVals conf) rfl (by rw [intVals_len]; omega) (fun jj u hj => by
        obtain ⟨b, o, h1, hcell⟩ := HVL.out.at.2.2 (by have := (List.getElem?_eq_some_iff.1 hj).1; omega)
        cases h1
        rw [add_addr]
        exact hcell _ (Below.refl _ _) jj u hj) (intVals_one _) (by unfold maxLen; omega) (by omega) hwz ?_; intro v' w4 hown' hgrow hnil; obtain ⟨a5, k5, rfl⟩ := own_form hown'; have HX4 := hid ((hgrow.block x (Array.getElem?_eq_some_iff.1 HX3.out).1 (fun e => by cases e)).trans HX3.out); have d5' := cell_in HX4.out 5 (.slice none 0 0) rfl; have f5 := free_in HX4.out 5)
      have HOW := hid (show w4.ownsRow wr.heap.size 3 1 (.slice a5 (0 + conf.length) k5) conf.length (intVals conf) by simpa using hown')
      have HB4 := hid (HB3.out.grown hgrow hwz (fun r hr => by first | cases hr | (simp [Value.ownBlock] at hr)))
      clear hown' hgrow hnil c2
      go_wp2_with fail
      go_meet
      case rel =>
        have hn := own_ne HOW.out HX4.out (fun cur e => by cases e)
        refine ⟨rfl, a5, k5, by simpa using heap_set HX4.out 5 (.slice a5 (0 + conf.length) k5), ?_, HB4.out.trans ((Turn.set (F := [x]) w4 x 5 _ (by simp)).toBelow HB4.out.size (by intro b hb; rw [List.mem_singleton.1 hb, HXE.out]; exact Nat.le_refl _))⟩
        have h0 := ownsRow_of_block (W' := w4.setCell ⟨x, 5, none⟩ (.slice a5 (0 + conf.length) k5)) HOW.out (fun r hr => Below.heap_setCell _ _ _ _ (fun e => hn (by rw [hr, e])))
        simpa using h0
  case rest =>
  obtain ⟨w4, hwn⟩ : ∃ w : World, w = wc := ⟨wc, rfl⟩
  subst hwn
  obtain ⟨rfl, a5, k5, hx4, hr5, hb4⟩ := hcut
  have HX4 := hid hx4
  have HR5 := hid hr5
  have HB4 := hid hb4
  have HG4 := hid (blk_below HK2.out hb4)
  clear hx4 hr5 hb4 HX3 HG3 HB3
  as_aux_lemma =>
  go_upto_region 11 with fail
  go_cut [8] from 10 (fun s8 w5 => s8 = .pointer (some ⟨x, 0, none⟩) ∧ ∃ (a6 : Option Addr) (k6 : Nat), w5.heap[x]? = some (.cells #[.int .u64 S.hard.term, .int .i64 S.hard.vote, .int .u64 S.hard.life, .int .u64 base, .int .u64 bterm, .slice a5 conf.length k5, .slice a6 l.length k6, .string (str image)] 51) ∧ w5.ownsRow wr.heap.size 3 1 (.slice a5 conf.length k5) conf.length (intVals conf) ∧ w5.ownsRow wr.heap.size 116 3 (.slice a6 l.length k6) l.length (enVals l) ∧ Below wr.heap.size wr w5)
  case first =>
    obtain ⟨i0, hi0, hz0, hz1, hz2⟩ := info_parts infoEntry
    have c3 := cell_in HG4.out 3 (.slice al l.length cl) rfl
    have d6 := cell_in HX4.out 6 (.slice none 0 0) rfl
    have HVL := hid (HVL2.out.below HB4.out)
    have hwz : wr.heap.size ≤ w4.heap.size := HB4.out.size
    cases al with
    | none =>
      have hL0 : l = [] := by
        obtain ⟨_, _, hx⟩ := HVL.out.at
        cases hLL : l with
        | nil => rfl
        | cons e rr =>
          obtain ⟨b, o, h1, _⟩ := hx (by rw [enVals_len, hLL]; simp)
          cases h1
      have HL0 := hid hL0
      have f6 := free_in HX4.out 6
      have hlz : l.length = 0 := by rw [hL0]; rfl
      clear hL0
      go_wp2_with fail
      go_meet
      case rel =>
        have hn := own_ne HR5.out HX4.out (fun cur e => by cases e)
        rw [HL0.out]
        exact ⟨rfl, none, 0, heap_set HX4.out 6 _, ownsRow_of_block HR5.out (fun r hr => Below.heap_setCell _ _ _ _ (fun e => hn (by rw [hr, e]))), World.ownsRow_nil _ _ _ _, HB4.out.trans ((Turn.set (F := [x]) w4 x 6 _ (by simp)).toBelow hwz (by intro b hb; rw [List.mem_singleton.1 hb, HXE.out]; exact Nat.le_refl _))⟩
    | some ad =>
      go_wp2_with (at_builtin; refine wpList_append_own _ rfl _ _ 47 rfl wr.heap.size 116 i0 (.agg #[.int .u64 0, .int .i64 0, .string { data := #[] }]) 3 32 Tryz.underlying47 hi0 hz0 hz1 hz2 rfl (by decide) _ _ _ rfl (World.ownsRow_nil _ _ _ _) ad l.length cl (enVals l) rfl (by rw [enVals_len]; omega) (fun jj u hj => by
        obtain ⟨b, o, h1, hcell⟩ := HVL.out.at.2.2 (by have := (List.getElem?_eq_some_iff.1 hj).1; omega)
        cases h1
        rw [add_addr]
        exact hcell _ (Below.refl _ _) jj u hj) (enVals_one _) (by unfold maxLen; omega) (by omega) hwz ?_; intro v' w5 hown' hgrow hnil; obtain ⟨a6, k6, rfl⟩ := own_form hown'; have HX5 := hid ((hgrow.block x (Array.getElem?_eq_some_iff.1 HX4.out).1 (fun e => by cases e)).trans HX4.out); have d6' := cell_in HX5.out 6 (.slice none 0 0) rfl; have f6 := free_in HX5.out 6)
      have HOW := hid (show w5.ownsRow wr.heap.size 116 3 (.slice a6 (0 + l.length) k6) l.length (enVals l) by simpa using hown')
      have HB5 := hid (HB4.out.grown hgrow hwz (fun r hr => by first | cases hr | (simp [Value.ownBlock] at hr)))
      have HR55 := hid (ownsRow_of_block HR5.out (fun r hr => hgrow.block r (HR5.out.lt r hr).2 (fun e => by cases e)))
      clear hown' hgrow hnil c3
      go_wp2_with fail
      go_meet
      case rel =>
        have hn := own_ne HOW.out HX5.out (fun cur e => by cases e)
        have hn2 := own_ne HR55.out HX5.out (fun cur e => by cases e)
        refine ⟨rfl, a6, k6, by simpa using heap_set HX5.out 6 (.slice a6 (0 + l.length) k6), ?_, ?_, HB5.out.trans ((Turn.set (F := [x]) w5 x 6 _ (by simp)).toBelow HB5.out.size (by intro b hb; rw [List.mem_singleton.1 hb, HXE.out]; exact Nat.le_refl _))⟩
        · have h0 := ownsRow_of_block (W' := w5.setCell ⟨x, 6, none⟩ (.slice a6 (0 + l.length) k6)) HR55.out (fun r hr => Below.heap_setCell _ _ _ _ (fun e => hn2 (by rw [hr, e])))
          simpa using h0
        · have h0 := ownsRow_of_block (W' := w5.setCell ⟨x, 6, none⟩ (.slice a6 (0 + l.length) k6)) HOW.out (fun r hr => Below.heap_setCell _ _ _ _ (fun e => hn (by rw [hr, e])))
          simpa using h0
  case rest =>
  obtain ⟨w5, hwn⟩ : ∃ w : World, w = wc := ⟨wc, rfl⟩
  subst hwn
  obtain ⟨rfl, a6, k6, hx5, hr5, hr6, hb5⟩ := hcut
  have H5 := hid (H2.out.below hb5)
  have HX5 := hid hx5
  have HR5' := hid hr5
  have HR6 := hid hr6
  have HT5 := hid (HT2.out.trans ((Turn.below (F := []) hb5).mono (G := [j, p]) (by simp)) (fun b hb => .inl hb))
  have HGZ : Hid (∀ b ∈ j :: p :: G, b < wr.heap.size) := hid (fun b hb => Nat.lt_trans (HGD.out b hb) HZ2.out)
  have HGJ : Hid (∀ b ∈ j :: G, b < w5.heap.size) := hid (fun b hb => Nat.lt_of_lt_of_le (Nat.lt_trans (HGG.out b hb) HZ2.out) hb5.size)
  have HJ5 := hid (blk_below HG1.out hb5)
  have HFI := hid (rfile_js HOK.out (by show l.length ≤ _; omega) (.slice a5 conf.length k5) (.slice a6 l.length k6) w5.drew (Cells.of_row (w := w5.drew) hr5 [] (by simp)) (Cells.of_row (w := w5.drew) hr6 [] (by simp)))
  have HFI2 : Hid (Calls Tryz.prog 50 #[.agg #[.int .u64 S.hard.term, .int .i64 S.hard.vote, .int .u64 S.hard.life, .int .u64 base, .int .u64 bterm, .slice a5 conf.length k5, .slice a6 l.length k6, .string (str image)]] w5.drew fun e w' => e = .returned (.string (str (fileB ⟨S.hard, ⟨base, bterm, conf, l⟩, image⟩))) ∧ Below w5.drew.heap.size w5.drew w') := hid HFI.out
  have HXN : Hid (x ∉ [p] ∧ j ∉ [p]) := by
    obtain ⟨_, _, _, _, _, _, _, _, _, h8⟩ := H2.out
    have h1 := HGZ.out p (by simp)
    have h2 := HXE.out
    exact hid ⟨by simp; omega, by simpa using h8⟩
  clear hx5 hr5 hr6 hb5 HX4 HR5 HB4 HG4 HFI
  as_aux_lemma =>
  have hE1 : RwAt j x (rjCells p S vcj vlj) #[.int .u64 S.hard.term, .int .i64 S.hard.vote, .int .u64 S.hard.life, .int .u64 base, .int .u64 bterm, .slice a5 conf.length k5, .slice a6 l.length k6, .string (str image)] w5.drew := ⟨HJ5.out, HX5.out⟩
  have HCO : Hid (∀ W' : World, RwAt j x (rjCells p S vcj vlj) #[.int .u64 S.hard.term, .int .i64 S.hard.vote, .int .u64 S.hard.life, .int .u64 base, .int .u64 bterm, .slice a5 conf.length k5, .slice a6 l.length k6, .string (str image)] W' → W'.cell? ⟨j, 0, none⟩ = some (.pointer (some ⟨p, 0, none⟩)) ∧ W'.cell? ⟨x, 0, none⟩ = some (.int .u64 S.hard.term) ∧ W'.cell? ⟨x, 1, none⟩ = some (.int .i64 S.hard.vote) ∧ W'.cell? ⟨x, 2, none⟩ = some (.int .u64 S.hard.life) ∧ W'.cell? ⟨x, 3, none⟩ = some (.int .u64 base) ∧ W'.cell? ⟨x, 4, none⟩ = some (.int .u64 bterm) ∧ W'.cell? ⟨x, 5, none⟩ = some (.slice a5 conf.length k5) ∧ W'.cell? ⟨x, 6, none⟩ = some (.slice a6 l.length k6) ∧ W'.cell? ⟨x, 7, none⟩ = some (.string (str image))) := fun W' h => ⟨cell_in h.1 0 _ rfl, cell_in h.2 0 _ rfl, cell_in h.2 1 _ rfl, cell_in h.2 2 _ rfl, cell_in h.2 3 _ rfl, cell_in h.2 4 _ rfl, cell_in h.2 5 _ rfl, cell_in h.2 6 _ rfl, cell_in h.2 7 _ rfl⟩
  have hfl : (fileB ⟨S.hard, ⟨base, bterm, conf, l⟩, image⟩).length ≤ 549755813888 := HFL.out
  generalize fileB ⟨S.hard, ⟨base, bterm, conf, l⟩, image⟩ = R at *
  go_wp2_with fail
  go_region_held3 (fun W' => W'.cell? ⟨j, 0, none⟩ = some (.pointer (some ⟨p, 0, none⟩)) ∧ W'.cell? ⟨x, 0, none⟩ = some (.int .u64 S.hard.term) ∧ W'.cell? ⟨x, 1, none⟩ = some (.int .i64 S.hard.vote) ∧ W'.cell? ⟨x, 2, none⟩ = some (.int .u64 S.hard.life) ∧ W'.cell? ⟨x, 3, none⟩ = some (.int .u64 base) ∧ W'.cell? ⟨x, 4, none⟩ = some (.int .u64 bterm) ∧ W'.cell? ⟨x, 5, none⟩ = some (.slice a5 conf.length k5) ∧ W'.cell? ⟨x, 6, none⟩ = some (.slice a6 l.length k6) ∧ W'.cell? ⟨x, 7, none⟩ = some (.string (str image))) (exact HCO.out _ (by assumption))
    (first
    | (go_at_call 50; refine Calls.mono HFI2.out ?_; rintro e w6 ⟨rfl, hb6⟩; have HB6 : Hid (Below w5.heap.size w5 w6) := hid ⟨hb6.os, hb6.tape, hb6.output, hb6.size, hb6.block⟩; have hE2 := hE1.turn (.below (F := []) hb6) (by simp) (by simp); have H6 := hid (H5.out.below HB6.out); clear hb6)
    | (go_at_call 51; refine Calls.mono (rput_any H6.out.rd hok hn (fun b hb => Nat.lt_of_lt_of_le (HGJ.out b hb) HB6.out.size) R hfl) ?_; rintro e w7 ⟨rfl, hd7, ht7⟩; have hE3 := hE2.turn ht7 HXN.out.2 HXN.out.1; have H7 := hid (H6.out.disk hd7 ht7); have HT7 := hid ht7; clear hd7 ht7))
  have HX7 := hid hE3.2
  have HJ7 := hid hE3.1
  have HT57 := hid (((Turn.below (F := []) HB6.out).mono (G := [j, p]) (by simp)).trans (HT7.out.mono (G := [j, p]) (by simp)) (fun b hb => .inl hb))
  have HC7 : Hid (Cells (j :: p :: G) w7 (.slice a5 conf.length k5) conf.length (intVals conf)) := hid (((Cells.of_row HR5'.out (j :: p :: G) HGZ.out).below HB6.out).besides (HT7.out.mono (by simp)) (fun b hb => .inl hb))
  have HL7 : Hid (Cells (j :: p :: G) w7 (.slice a6 l.length k6) l.length (enVals l)) := hid (((Cells.of_row HR6.out (j :: p :: G) HGZ.out).below HB6.out).besides (HT7.out.mono (by simp)) (fun b hb => .inl hb))
  have HTT := hid (HT5.out.trans HT57.out (fun b hb => .inl hb))
  clear hE1 hE2 hE3 H6 HB6 HFI2 HT57 HT5 H5 HCO HT7
  generalize hqq : Ds.sync' (d.puts R) = q3 at *
  obtain ⟨d3, e4⟩ := q3
  simp only at H7 HR ⊢
  by_cases he4 : e4 = 0
  · subst he4
    have HR4 := hid (HR.out.trans (if_neg (by simp)))
    have HTH : Hid (w7.there j 1 8) := hid (fun k hk => ⟨by
      have h9 : 1 + k < (rjCells p S vcj vlj).size := by show 1 + k < 9; omega
      rw [cell_in HJ7.out (1 + k) _ (Array.getElem?_eq_getElem h9)]
      rfl, free_in HJ7.out _⟩)
    have HST := hid (set_rstate (S' := ⟨S.hard, ⟨base, bterm, conf, l⟩, image⟩) (vc' := .slice a5 conf.length k5) (vl' := .slice a6 l.length k6) HJ7.out)
    clear hqq
    go_wp2_with (first
      | (refine wpList_load_row rfl 51 _ rfl x (by rfl) 51 _ (0, 0) _ HX7.out Tryz.underlying51 rfl sizeTold ?_)
      | (refine wpList_store_mid rfl 51 _ _ rfl j 1 #[.int .u64 S.hard.term, .int .i64 S.hard.vote, .int .u64 S.hard.life, .int .u64 base, .int .u64 bterm, .slice a5 conf.length k5, .slice a6 l.length k6, .string (str image)] (by rfl) (by rfl) HTH.out sizeTold (by simp [Value.oneCell']) ?_))
    go_ret
    rw [HR4.out]
    obtain ⟨t, hk⟩ := HST.out
    exact ⟨rfl, H7.out.restate t hk (HC7.out.besides (t.mono (by simp)) (fun b hb => .inl hb)) (HL7.out.besides (t.mono (by simp)) (fun b hb => .inl hb)) HOK.out (by show l.length ≤ _; omega), HTT.out.trans (t.mono (by simp)) (fun b h => .inl h)⟩
  · have HR4 := hid (HR.out.trans (if_pos he4))
    have h1 : ((e4 : Int) == 0) = false := by simp only [beq_eq_false_iff_ne, ne_eq]; omega
    have h2 : ¬ ((e4 : Int) = 0) := by omega
    clear he4 hqq
    go_wp2_with fail
    go_ret
    rw [HR4.out]
    exact ⟨rfl, H7.out, HTT.out⟩
end Go.Proofs.YtmehcogaopackaaGreat
