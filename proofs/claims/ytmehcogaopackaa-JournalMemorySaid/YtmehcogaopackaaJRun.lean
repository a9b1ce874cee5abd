/-
  The walk of the law's run.
-/
import Derived.Test.YtmehcogaopackaaJRebase
import Derived.Test.YtmehcogaopackaaJAct
namespace Go.Proofs.Ytmehcogaopackaa
open Go.RowKit
set_option linter.unusedVariables false
set_option linter.unusedSimpArgs false
/-- a call whose parts are as many as a script that is not great has -/
def AcFit (a : Ac) : Prop := a.fr < top64 ∧ a.hard.term < top64 ∧ a.hard.life < top64 ∧ a.log.base < top64 ∧ a.log.bterm < top64 ∧ (∀ e ∈ a.log.l, e.term < top64 ∧ e.data.length ≤ 1048576) ∧ a.log.conf.length ≤ 1000 ∧ a.log.l.length ≤ 1000 ∧ a.image.length ≤ 1048576
/-- the calls of a script, in blocks beside G -/
def AcsIn (G : List Nat) (l : List Ac) (v : Value) (w : World) : Prop := ∃ (x : Option Addr) (cap : Nat), v = .slice x l.length cap ∧ l.length ≤ cap ∧ (∀ a ∈ l, AcFit a) ∧ (0 < l.length → ∃ b off, x = some ⟨b, off, none⟩ ∧ b ∉ G ∧ ∀ j (hj : j < l.length), ∃ vc vl, Cells G w vc l[j].log.conf.length (intVals l[j].log.conf) ∧ Cells G w vl l[j].log.l.length (enVals l[j].log.l) ∧ ∀ k u, (l[j].vals vc vl)[k]? = some u → w.cell? ⟨b, off + j * 11 + k, none⟩ = some u)
theorem Cells.after {G G' : List Nat} {W W' : World} {v : Value} {n : Nat} {xs : List Value} (h : Cells G W v n xs) (t : Turn G W W') (hG : ∀ b ∈ G', b ∈ G ∨ W.heap.size ≤ b) : Cells G' W' v n xs := by
  obtain ⟨a, cap, hv, hc, hx⟩ := h
  refine ⟨a, cap, hv, hc, fun hp => ?_⟩
  obtain ⟨b, off, ha, hb, hcell⟩ := hx hp
  have hlt : b < W.heap.size := World.block_lt_of_cell? _ _ (hcell 0 hp)
  refine ⟨b, off, ha, fun hm => ?_, fun j hj => ?_⟩
  · rcases hG b hm with h | h
    · exact hb h
    · omega
  · exact (World.cell?_of_block (t.block hlt hb)).trans (hcell j hj)
theorem AcsIn.after {G G' : List Nat} {W W' : World} {l : List Ac} {v : Value} (h : AcsIn G l v W) (t : Turn G W W') (hG : ∀ b ∈ G', b ∈ G ∨ W.heap.size ≤ b) : AcsIn G' l v W' := by
  obtain ⟨x, cap, hv, hc, hf, hx⟩ := h
  refine ⟨x, cap, hv, hc, hf, fun hp => ?_⟩
  obtain ⟨b, off, hxe, hb, hj⟩ := hx hp
  obtain ⟨vc0, vl0, _, _, hc0⟩ := hj 0 hp
  have hlt : b < W.heap.size := World.block_lt_of_cell? _ _ (hc0 0 _ rfl)
  refine ⟨b, off, hxe, fun hm => ?_, fun j hj' => ?_⟩
  · rcases hG b hm with h | h
    · exact hb h
    · omega
  · obtain ⟨vc, vl, h1, h2, h3⟩ := hj j hj'
    exact ⟨vc, vl, h1.after t hG, h2.after t hG, fun k u hu => (World.cell?_of_block (t.block hlt hb)).trans (h3 k u hu)⟩
/-- cells from a place on -/
def Sc (W : World) (b o : Nat) (xs : List Value) : Prop := ∀ k u, xs[k]? = some u → W.cell? ⟨b, o + k, none⟩ = some u
theorem Sc.turn {W W' : World} {b o : Nat} {xs : List Value} (h : Sc W b o xs) {F : List Nat} (t : Turn F W W') (hb : b ∉ F) : Sc W' b o xs := fun k u hu => by
  have h1 := h k u hu
  exact (World.cell?_of_block (t.block (World.block_lt_of_cell? _ _ h1) hb)).trans h1
/-- how run's calls leave the journal -/
def Ran (W : World) (j p : Nat) (G : List Nat) (n m : Nat) (W' : World) : Prop := ∃ G' d' S', JnAt W' j p G' d' S' ∧ (∀ b ∈ G', b ∈ G ∨ W.heap.size ≤ b) ∧ Turn G W W' ∧ d'.Ok n ∧ S'.log.l.length ≤ m
theorem Ran.step {W W1 W2 : World} {j p : Nat} {G G1 : List Nat} {n m : Nat} {d2 : Ds} {S2 : Js} (k2 : ∀ b ∈ G1, b ∈ G ∨ W.heap.size ≤ b) (k3 : Turn G W W1) (h : JnAfter W1 j p G1 d2 S2 W2) (ho : d2.Ok n) (hm : S2.log.l.length ≤ m) : Ran W j p G n m W2 := by
  obtain ⟨G2, a1, a2, a3⟩ := h
  refine ⟨G2, d2, S2, a1, fun b hb => ?_, k3.trans a3 k2, ho, hm⟩
  rcases a2 b hb with h | h
  · exact k2 b h
  · exact .inr (Nat.le_trans k3.size h)
theorem jSave_ok {d : Ds} {S : Js} {n : Nat} (h : d.Ok n) (x : Hd) : (jSave d S x).1.Ok (n + 1) ∧ (jSave d S x).2.1.log.l.length = S.log.l.length := by
  have h0 : d.Ok (n + 1) := ⟨h.1, by have := h.2; omega⟩
  have h1 := (Ds.Ok.sync' (h.add (hardRec ⟨x.term, x.vote, S.hard.life⟩))).1
  unfold jSave
  split
  · exact ⟨h0, rfl⟩
  · split
    · exact ⟨h0, rfl⟩
    · split
      · exact ⟨h1, rfl⟩
      · exact ⟨h1, rfl⟩
theorem jAppend_ok {d : Ds} {S : Js} {n : Nat} (h : d.Ok n) (fr : Nat) (l : List En) : (jAppend d S fr l).1.Ok (n + 1) ∧ (jAppend d S fr l).2.1.log.l.length ≤ S.log.l.length + l.length := by
  have h0 : d.Ok (n + 1) := ⟨h.1, by have := h.2; omega⟩
  have h1 := (Ds.Ok.sync' (h.add (entRecs fr l).flatten)).1
  unfold jAppend
  split
  · exact ⟨h0, by simp only; omega⟩
  · split
    · exact ⟨h0, by simp only; omega⟩
    · split
      · exact ⟨h1, by simp only; omega⟩
      · exact ⟨h1, by simp only [List.length_append, List.length_take]; omega⟩
theorem jRebase_ok {d : Ds} {S : Js} {n : Nat} (h : d.Ok n) (g : Lg) (im : Bytes) : (jRebase d S g im).1.Ok (n + 1) ∧ ((jRebase d S g im).2.1.log.l.length ≤ S.log.l.length + g.l.length) := by
  have h0 : d.Ok (n + 1) := ⟨h.1, by have := h.2; omega⟩
  have h1 := (Ds.Ok.sync' (h.puts (fileB ⟨S.hard, g, im⟩))).1
  unfold jRebase
  split
  · exact ⟨h0, by simp only; omega⟩
  · split
    · exact ⟨h1, by simp only; omega⟩
    · exact ⟨h1, by simp only; omega⟩
set_option maxRecDepth 100000 in
set_option maxHeartbeats 8000000 in
theorem run_any {W : World} {j p : Nat} {G : List Nat} {d : Ds} {S : Js} (h : JnAt W j p G d S) {n m : Nat} (hok : d.Ok n) (hn : n ≤ 1000) (hm : S.log.l.length ≤ m) (hm2 : m ≤ 100000) (l : List Ac) (v : Value) (hl : l.length ≤ 60) (hv : AcsIn G l v W) :
    Calls Try.prog 13 #[.pointer (some ⟨j, 0, none⟩), v] W fun e W' => e = .returned (.tuple #[]) ∧ Ran W j p G (n + l.length) (m + 1000 * l.length) W' := by
  have HV := hid hv
  obtain ⟨x, cap, rfl, hcap, hfit, _⟩ := hv
  have HF := hid hfit
  have H := hid h
  have HOK := hid hok
  clear h hok hfit
  go_enter Try.func13, Try.ntmps13
  go_wp2_with fail
  go_loopw [4] (fun i wr => ∃ (q : Nat), i = .int .i64 q ∧ q ≤ l.length ∧ Ran W j p G (n + q) (m + 1000 * q) wr) (fun i _ => l.length - (intOf i).toNat)
  case atStart => exact ⟨0, rfl, Nat.zero_le _, G, d, S, H.out, fun _ h => .inl h, .refl _ _, HOK.out, by omega⟩
  case round =>
    obtain ⟨q, rfl, hq, hr⟩ := hrel
    by_cases hlt : q < l.length
    · obtain ⟨G1, d1, S1, k1, k2, k3, k4, k5⟩ := hr
      have hin := HV.out.after k3 k2
      obtain ⟨x', cap', e0, _, _, hx⟩ := hin
      cases e0
      obtain ⟨b, off, rfl, hbG, hj⟩ := hx (by omega)
      obtain ⟨vc, vl, hcc, hcl, hcell⟩ := hj q hlt
      have hft := HF.out l[q] (List.getElem_mem hlt)
      have HBG := hid hbG
      have HK1 := hid k1
      have HK2 := hid k2
      have HK3 := hid k3
      have HK4 := hid k4
      have HK5 := hid k5
      have HCC := hid hcc
      have HCL := hid hcl
      have HFT := hid hft
      have HCE := hid hcell
      generalize l[q] = a at *
      have e0 := hcell 0 _ rfl
      rw [Nat.add_zero] at e0
      clear hj hx hcell hcc hcl k1 k2 k3 k4 k5 hft
      by_cases hk1 : a.kind = 1
      · as_aux_lemma =>
        have e3 : wr.cell? ⟨b, off + q * 11 + 3, none⟩ = some (.int .u64 a.hard.term) := HCE.out 3 _ rfl
        have e4 : wr.cell? ⟨b, off + q * 11 + 4, none⟩ = some (.int .i64 a.hard.vote) := HCE.out 4 _ rfl
        have e5 : wr.cell? ⟨b, off + q * 11 + 5, none⟩ = some (.int .u64 a.hard.life) := HCE.out 5 _ rfl
        rw [hk1] at e0
        have g4 : off + q * 11 + 3 + 1 = off + q * 11 + 4 := by omega
        have g5 : off + q * 11 + 3 + 2 = off + q * 11 + 5 := by omega
        go_wp2_with fail
        refine Calls.mono (save_any HK1.out HK4.out (by omega) a.hard.term a.hard.vote a.hard.life HFT.out.2.1) ?_
        rintro e w2 ⟨rfl, ha2⟩
        have ho := jSave_ok (S := S1) HK4.out ⟨a.hard.term, a.hard.vote, a.hard.life⟩
        have HR2 : Hid (Ran W j p G (n + (q + 1)) (m + 1000 * (q + 1)) w2) := hid (Ran.step HK2.out HK3.out ha2 ho.1 (by have := HK5.out; rw [ho.2]; omega))
        clear ha2 ho e0 e3 e4 e5
        go_wp2_with fail
        go_roundw
        case rel => exact ⟨q + 1, by go_num, by omega, HR2.out⟩
        case measure => simp [intOf]; omega
      · by_cases hk2 : a.kind = 2
        · as_aux_lemma =>
          have hE0 : Sc wr.drew b (off + q * 11) (a.vals vc vl) := HCE.out
          have HCO : Hid (∀ W' : World, Sc W' b (off + q * 11) (a.vals vc vl) → W'.cell? ⟨b, off + q * 11 + 2, none⟩ = some (.int .u64 a.fr) ∧ W'.cell? ⟨b, off + q * 11 + 9, none⟩ = some vl) := fun W' h => ⟨h 2 _ rfl, h 9 _ rfl⟩
          rw [hk2] at e0
          have g9 : off + q * 11 + 6 + 3 = off + q * 11 + 9 := by omega
          have ho := jAppend_ok (S := S1) HK4.out a.fr a.log.l
          have HO := hid ho
          clear ho
          go_wp2_with fail
          go_region_held3 (fun W' => W'.cell? ⟨b, off + q * 11 + 2, none⟩ = some (.int .u64 a.fr) ∧ W'.cell? ⟨b, off + q * 11 + 9, none⟩ = some vl) (first | exact HCO.out _ (by assumption))
            ((go_at_call 10; refine Calls.mono (append_any (by exact HK1.out.below (Below.refl _ _).drew) HK4.out (by omega) a.fr a.log.l vl HFT.out.1 (by exact HCL.out) HFT.out.2.2.2.2.2.2.2.1 (by have := HK5.out; omega) HFT.out.2.2.2.2.2.1) ?_; rintro e w2 ⟨rfl, ha2⟩; have hE2 : Sc w2 b (off + q * 11) (a.vals vc vl) := (by obtain ⟨_, _, _, t⟩ := ha2; exact hE0.turn t HBG.out)))
          have HR2 : Hid (Ran W j p G (n + (q + 1)) (m + 1000 * (q + 1)) w2) := hid (Ran.step HK2.out HK3.out.drew ha2 HO.out.1 (by have := HK5.out; have := HO.out.2; have := HFT.out.2.2.2.2.2.2.2.1; omega))
          clear ha2 hE0 hE2 e0
          go_wp2_with fail
          go_roundw
          case rel => exact ⟨q + 1, by go_num, by omega, HR2.out⟩
          case measure => simp [intOf]; omega
        · by_cases hk3 : a.kind = 3
          · as_aux_lemma =>
            have hE0 : Sc wr.drew b (off + q * 11) (a.vals vc vl) := HCE.out
            have HCO : Hid (∀ W' : World, Sc W' b (off + q * 11) (a.vals vc vl) → W'.cell? ⟨b, off + q * 11 + 6, none⟩ = some (.int .u64 a.log.base) ∧ W'.cell? ⟨b, off + q * 11 + 7, none⟩ = some (.int .u64 a.log.bterm) ∧ W'.cell? ⟨b, off + q * 11 + 8, none⟩ = some vc ∧ W'.cell? ⟨b, off + q * 11 + 9, none⟩ = some vl ∧ W'.cell? ⟨b, off + q * 11 + 10, none⟩ = some (.string (str a.image))) := fun W' h => ⟨h 6 _ rfl, h 7 _ rfl, h 8 _ rfl, h 9 _ rfl, h 10 _ rfl⟩
            rw [hk3] at e0
            have g7 : off + q * 11 + 6 + 1 = off + q * 11 + 7 := by omega
            have g8 : off + q * 11 + 6 + 2 = off + q * 11 + 8 := by omega
            have g9 : off + q * 11 + 6 + 3 = off + q * 11 + 9 := by omega
            have ho : (jRebase d1 S1 ⟨a.log.base, a.log.bterm, a.log.conf, a.log.l⟩ a.image).1.Ok (n + q + 1) ∧ (jRebase d1 S1 ⟨a.log.base, a.log.bterm, a.log.conf, a.log.l⟩ a.image).2.1.log.l.length ≤ S1.log.l.length + a.log.l.length := jRebase_ok (S := S1) HK4.out a.log a.image
            have HO := hid ho
            clear ho
            go_wp2_with fail
            go_region_held3 (fun W' => W'.cell? ⟨b, off + q * 11 + 6, none⟩ = some (.int .u64 a.log.base) ∧ W'.cell? ⟨b, off + q * 11 + 7, none⟩ = some (.int .u64 a.log.bterm) ∧ W'.cell? ⟨b, off + q * 11 + 8, none⟩ = some vc ∧ W'.cell? ⟨b, off + q * 11 + 9, none⟩ = some vl ∧ W'.cell? ⟨b, off + q * 11 + 10, none⟩ = some (.string (str a.image))) (first | exact HCO.out _ (by assumption))
              ((go_at_call 11; refine Calls.mono (rebase_any (by exact HK1.out.below (Below.refl _ _).drew) HK4.out (by omega) a.log.base a.log.bterm a.log.conf a.log.l a.image vc vl HFT.out.2.2.2.1 HFT.out.2.2.2.2.1 (by exact HCC.out.sub (by simp)) (by exact HCL.out.sub (by simp)) HFT.out.2.2.2.2.2.2.1 HFT.out.2.2.2.2.2.2.2.1 HFT.out.2.2.2.2.2.1 HFT.out.2.2.2.2.2.2.2.2) ?_; rintro e w2 ⟨rfl, ha2⟩; have hE2 : Sc w2 b (off + q * 11) (a.vals vc vl) := (by obtain ⟨_, _, _, t⟩ := ha2; exact hE0.turn t HBG.out)))
            have HR2 : Hid (Ran W j p G (n + (q + 1)) (m + 1000 * (q + 1)) w2) := hid (Ran.step HK2.out HK3.out.drew ha2 HO.out.1 (by have := HK5.out; have := HO.out.2; have := HFT.out.2.2.2.2.2.2.2.1; omega))
            clear ha2 hE0 hE2 e0
            go_wp2_with fail
            go_roundw
            case rel => exact ⟨q + 1, by go_num, by omega, HR2.out⟩
            case measure => simp [intOf]; omega
          · as_aux_lemma =>
            have HR2 : Hid (Ran W j p G (n + (q + 1)) (m + 1000 * (q + 1)) wr) := hid (Ran.step HK2.out HK3.out (.same HK1.out (Below.refl _ _)) ⟨HK4.out.1, by have := HK4.out.2; omega⟩ (by have := HK5.out; omega))
            go_wp2_with fail
            go_roundw
            case rel => exact ⟨q + 1, by go_num, by omega, HR2.out⟩
            case measure => simp [intOf]; omega
    · obtain rfl : q = l.length := by omega
      have HR := hid hr
      clear hr
      go_wp2_with fail
      go_end0
      exact ⟨rfl, HR.out⟩
end Go.Proofs.Ytmehcogaopackaa
