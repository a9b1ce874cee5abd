/-
  The walk of the law SealTorn.
-/
import Derived.Test.YtndafpmngfcibaaSealBackW
namespace Go.Proofs.Ytndafpmngfcibaa
open Go.RowKit

/-- the slice value v holds the numbers ns -/
def HoldsNats (w : World) (v : Value) (ns : List Nat) : Prop :=
  ∃ (a : Option Addr) (cap : Nat), v = .slice a ns.length cap ∧ (0 < ns.length → ∃ b, a = some ⟨b, 0, none⟩ ∧ ∀ j (h : j < ns.length), w.cell? ⟨b, j, none⟩ = some (.int .i64 (ns[j] : Int)))
theorem holdsNats_own {w : World} {b : Nat} {v : Value} {n : Nat} {e : TypeId} (ns : List Nat) (hn : n = ns.length) (h : w.ownsRow b e 1 v n (natVals ns)) : HoldsNats w v ns := by
  subst hn
  rcases h.2 with ⟨rfl, h0⟩ | ⟨g, cap, cur, rfl, _, _, _⟩
  · exact ⟨none, 0, by rw [h0], fun hp => by omega⟩
  · refine ⟨some ⟨g, 0, none⟩, cap, rfl, fun _ => ⟨g, rfl, fun j hj => ?_⟩⟩
    rw [h.cellAt j (by omega)]
    simp [natVals, hj]
theorem ownsRow_cap {w : World} {b : Nat} {e : TypeId} {z : Nat} {a : Option Addr} {n m cap : Nat} {xs : List Value} (h : w.ownsRow b e z (.slice a m cap) n xs) (hm : m = n) : m ≤ cap := by
  rcases h.2 with ⟨e1, h0⟩ | ⟨g, c, cur, e1, _, _, hc, _⟩
  · omega
  · cases e1; exact hc
theorem tear_place (k : Int) (n : Nat) (hn : n ≤ 9223372036854775806) : ∃ u m : Nat, IntKind.u64.wrap k = (u : Int) ∧ ((u : Int).tmod ((n : Int) + 1)) = (m : Int) ∧ m ≤ n := by
  have h0 : 0 ≤ IntKind.u64.wrap k := by rw [IntKind.wrap_u64]; omega
  obtain ⟨u, hu⟩ := Int.eq_ofNat_of_zero_le h0
  refine ⟨u, u % (n + 1), hu, ?_, by have := Nat.mod_lt u (show 0 < n + 1 by omega); omega⟩
  have e : ((n : Int) + 1) = ((n + 1 : Nat) : Int) := by omega
  rw [e]; rfl

theorem rowB_take_mono (ks : List Bytes) {a b : Nat} (h : a ≤ b) : (rowB (ks.take a)).length ≤ (rowB (ks.take b)).length := by
  have := rowB_take_le (ks.take b) a
  rwa [List.take_take, Nat.min_eq_left h] at this
theorem holdsStrs_take {w : World} {a : Option Addr} {cap : Nat} {l : List Bytes} {k : Nat} (hk : k ≤ l.length) (hm : l.length ≤ maxLen) (hc : 0 < l.length → ∃ b off, a = some ⟨b, off, none⟩ ∧ ∀ j (h : j < l.length), w.cell? ⟨b, off + j, none⟩ = some (.string (str l[j]))) : HoldsStrs w (.slice a k cap) (l.take k) := by
  have hl : (l.take k).length = k := by rw [List.length_take]; omega
  refine ⟨a, cap, by rw [hl], by omega, fun hp => ?_⟩
  obtain ⟨b, off, ha, hcell⟩ := hc (by omega)
  refine ⟨b, off, ha, fun j hj => ?_⟩
  rw [List.getElem_take]
  exact hcell j (by omega)

set_option maxHeartbeats 2000000 in
theorem sealTorn_walk (bs : List Bytes) (v : Value) (t : Int) (wt : (Lit.int .i64 t).wf = true) (w : World) (hv : HoldsStrs w v bs) (hr : bs.length * 16 ≤ 140737488355328) (hm : ∀ b ∈ bs, b.length ≤ maxLen) :
    Calls Try.prog 8 #[v, .int .i64 t] w fun e W' => e = .returned (.bool true) ∧ Below w.heap.size w W' := by
  have ht : -9223372036854775808 ≤ t ∧ t ≤ 9223372036854775807 := by simpa [Lit.wf, IntKind.min, IntKind.max, IntKind.signed, IntKind.bits] using wt
  obtain ⟨ht0, ht1⟩ := ht
  clear wt
  have hl1 := shorts_len bs bs.length (Nat.le_refl _)
  rw [List.take_length] at hl1
  have hrb := rowB_len (shorts bs) (shorts_mem _)
  obtain ⟨u, m, hu, hmod, hmle⟩ := tear_place t (rowB (shorts bs)).length (by omega)
  obtain ⟨K, t1, t2, t3, t4, t5, t6⟩ := all_torn (shorts bs) (shorts_mem _) m hmle
  have hsz : (str (rowB (shorts bs))).size = (rowB (shorts bs)).length := str_size _
  have hel := endsF_length (shorts bs) 0
  have HG := hid (endsF_get (shorts bs) 0)
  have HX := hid (show ((str (rowB (shorts bs))).extract 0 m).data.toList = (rowB (shorts bs)).take m by rw [Lib.extract_data, str_data, List.drop_zero, Nat.sub_zero])
  have H2 := hid t2
  have H3 := hid t3
  have H6 := hid t6
  have H5 := hid t5
  have HN := hid (show (scan ((rowB (shorts bs)).take m) 0).1.length = K by have := congrArg List.length t2; simpa [List.length_take, Nat.min_eq_left t1] using this)
  have HT := hid (rowB_take_le (shorts bs))
  clear t2 t3 t5 t6
  go_enter Try.func8, Try.ntmps8
  go_wp2_with fail
  refine (row_any bs v _ hv hr hm).mono ?_
  rintro e w1 ⟨vl, ve, rfl, ho, ha, hb1⟩
  go_wp2_with fail
  refine (sealAlive_any _).mono ?_
  rintro e w2 ⟨rfl, hb2⟩
  have h12 := hb1.trans (hb2.mono hb1.size)
  have ha2 := holdsNats_own (endsF 0 (shorts bs)) hel.symm (ownsRow_below ha hb2)
  have ho3 := ownsRow_below ho hb2
  have ho2 := holdsStrs_own (shorts bs) rfl rfl (by unfold maxLen; omega) ho3
  obtain ⟨ae, ce, rfl, hce⟩ := ha2
  obtain ⟨al, cl, rfl, hml, hcl⟩ := ho2
  have hlc := ownsRow_cap ho3 rfl
  clear ho3
  have HCE := hid hce
  have HCL := hid hcl
  clear hce hcl ho ha hb1 hb2
  rw [hel]
  go_wp2_with fail
  have HRB := hid hrb
  have HEL := hid hel
  have hn16 : (shorts bs).length * 16 ≤ 140737488355328 := by omega
  generalize shorts bs = ks at *
  clear hrb hl1 hel hr hv hm
  go_loop [9] (fun i => ∃ k : Nat, i = .int .i64 k ∧ k ≤ K) (fun i => K - (intOf i).toNat)
  case atStart => exact ⟨0, rfl, Nat.zero_le _⟩
  case round =>
    obtain ⟨k, rfl, hk⟩ := hrel
    by_cases hlt : k < K
    · obtain ⟨b, rfl, hcell⟩ := HCE.out (by rw [HEL.out]; omega)
      have hc1 := hcell k (by rw [HEL.out]; omega)
      rw [HG.out, Nat.zero_add] at hc1
      have hle : (rowB (ks.take (k + 1))).length ≤ m := Nat.le_trans (rowB_take_mono ks (show k + 1 ≤ K by omega)) t4
      generalize (rowB (ks.take (k + 1))).length = E at hc1 hle
      clear hcell
      go_wp2_with fail
      go_round
      case rel => exact ⟨k + 1, by go_num, by omega⟩
      case measure => simp [intOf]; omega
    · obtain rfl : k = K := by omega
      clear hlt hk
      have hkk : (rowB ks).length ≤ 9223372036854775807 := by have := HRB.out; omega
      have hfact : k < ks.length → ∃ b, ae = some ⟨b, 0, none⟩ ∧ ∃ E : Nat, m < E ∧ w2.cell? ⟨b, k, none⟩ = some (.int .i64 (E : Int)) := fun hend => by
        obtain ⟨b, rfl, hcell⟩ := HCE.out (by rw [HEL.out]; omega)
        refine ⟨b, rfl, _, H5.out hend, ?_⟩
        have hc1 := hcell k (by rw [HEL.out]; omega)
        rw [HG.out, Nat.zero_add] at hc1
        exact hc1
      have HK := hid hfact
      clear hfact
      by_cases hend : k < ks.length
      · obtain ⟨b, rfl, E, hgt, hc1⟩ := HK.out hend
        go_wp2_with fail
        refine (all_in ((str (rowB ks)).extract 0 m) (by rw [ByteArray.size_extract, str_size]; unfold maxLen; omega) (by rw [HX.out, HN.out]; omega) _).mono ?_
        rintro e w3 ⟨vm, rfl, hm3, hb3⟩
        rw [HX.out] at hm3 ⊢
        rw [H3.out, H6.out]
        have s2 := holds_bodies (scan ((rowB ks).take m) 0).1 rfl (by rw [HN.out]; unfold maxLen; omega) hm3
        rw [H2.out] at s2
        have hcl3 : 0 < ks.length → ∃ b off, al = some ⟨b, off, none⟩ ∧ ∀ j (h : j < ks.length), w3.cell? ⟨b, off + j, none⟩ = some (.string (str ks[j])) := fun hp => by
          obtain ⟨b, off, e0, hc⟩ := HCL.out hp
          exact ⟨b, off, e0, fun j hj => (hb3.cell (p := ⟨b, off + j, none⟩) (World.block_lt_of_cell? _ _ (hc j hj))).trans (hc j hj)⟩
        have s1 := holdsStrs_take (cap := cl) t1 hml hcl3
        have h13 := h12.trans (hb3.mono h12.size)
        have hce3 : ∀ j, k = j + 1 → ∃ b', (some ⟨b, 0, none⟩ : Option Addr) = some ⟨b', 0, none⟩ ∧ w3.cell? ⟨b', j, none⟩ = some (.int .i64 ((rowB (ks.take k)).length : Int)) := fun j hj => by
          obtain ⟨b', e', hcell⟩ := HCE.out (by rw [HEL.out]; omega)
          have hc1 := hcell j (by rw [HEL.out]; omega)
          rw [HG.out, Nat.zero_add, ← hj] at hc1
          exact ⟨b', e', (hb3.cell (p := ⟨b', j, none⟩) (World.block_lt_of_cell? _ _ hc1)).trans hc1⟩
        have hw0 : k = 0 → (rowB (ks.take k)).length = 0 := fun h => by rw [h]; simp [rowB_nil]
        have HC3 := hid hce3
        have HW0 := hid hw0
        clear hcl3 hm3 hce3 hw0
        generalize (rowB (ks.take k)).length = W at *
        by_cases hk0 : k = 0
        · have hWW := HW0.out hk0
          subst hk0
          subst hWW
          by_cases hmW : m = 0
          · subst hmW
            rw [if_pos rfl]
            go_wp2_with fail
            refine (same_true (ks.take 0) vm (.slice al 0 cl) _ s2 s1).mono ?_
            rintro e w4 ⟨rfl, hb4⟩
            go_wp2_with fail
            go_ret
            exact ⟨rfl, h13.trans (hb4.mono h13.size)⟩
          · rw [if_neg hmW]
            have hmq : (((m : Nat) : Int) == 0) = false := by rw [beq_eq_false_iff_ne]; omega
            clear hmW
            go_wp2_with fail
            refine (same_true (ks.take 0) vm (.slice al 0 cl) _ s2 s1).mono ?_
            rintro e w4 ⟨rfl, hb4⟩
            go_wp2_with fail
            go_ret
            exact ⟨rfl, h13.trans (hb4.mono h13.size)⟩
        · obtain ⟨j, rfl⟩ : ∃ j, k = j + 1 := ⟨k - 1, by omega⟩
          obtain ⟨b3, e3, hc3⟩ := HC3.out j rfl
          cases e3
          clear HC3 HW0 hk0
          by_cases hmW : m = W
          · subst hmW
            rw [if_pos rfl]
            go_wp2_with fail
            refine (same_true (ks.take (j + 1)) vm (.slice al (j + 1) cl) _ s2 s1).mono ?_
            rintro e w4 ⟨rfl, hb4⟩
            go_wp2_with fail
            go_ret
            exact ⟨rfl, h13.trans (hb4.mono h13.size)⟩
          · rw [if_neg hmW]
            have hmq : (((m : Nat) : Int) == (W : Int)) = false := by rw [beq_eq_false_iff_ne]; omega
            clear hmW
            go_wp2_with fail
            refine (same_true (ks.take (j + 1)) vm (.slice al (j + 1) cl) _ s2 s1).mono ?_
            rintro e w4 ⟨rfl, hb4⟩
            go_wp2_with fail
            go_ret
            exact ⟨rfl, h13.trans (hb4.mono h13.size)⟩
      · go_wp2_with fail
        refine (all_in ((str (rowB ks)).extract 0 m) (by rw [ByteArray.size_extract, str_size]; unfold maxLen; omega) (by rw [HX.out, HN.out]; omega) _).mono ?_
        rintro e w3 ⟨vm, rfl, hm3, hb3⟩
        rw [HX.out] at hm3 ⊢
        rw [H3.out, H6.out]
        have s2 := holds_bodies (scan ((rowB ks).take m) 0).1 rfl (by rw [HN.out]; unfold maxLen; omega) hm3
        rw [H2.out] at s2
        have hcl3 : 0 < ks.length → ∃ b off, al = some ⟨b, off, none⟩ ∧ ∀ j (h : j < ks.length), w3.cell? ⟨b, off + j, none⟩ = some (.string (str ks[j])) := fun hp => by
          obtain ⟨b, off, e0, hc⟩ := HCL.out hp
          exact ⟨b, off, e0, fun j hj => (hb3.cell (p := ⟨b, off + j, none⟩) (World.block_lt_of_cell? _ _ (hc j hj))).trans (hc j hj)⟩
        have s1 := holdsStrs_take (cap := cl) t1 hml hcl3
        have h13 := h12.trans (hb3.mono h12.size)
        have hce3 : ∀ j, k = j + 1 → ∃ b', ae = some ⟨b', 0, none⟩ ∧ w3.cell? ⟨b', j, none⟩ = some (.int .i64 ((rowB (ks.take k)).length : Int)) := fun j hj => by
          obtain ⟨b', e', hcell⟩ := HCE.out (by rw [HEL.out]; omega)
          have hc1 := hcell j (by rw [HEL.out]; omega)
          rw [HG.out, Nat.zero_add, ← hj] at hc1
          exact ⟨b', e', (hb3.cell (p := ⟨b', j, none⟩) (World.block_lt_of_cell? _ _ hc1)).trans hc1⟩
        have hw0 : k = 0 → (rowB (ks.take k)).length = 0 := fun h => by rw [h]; simp [rowB_nil]
        have HC3 := hid hce3
        have HW0 := hid hw0
        clear hcl3 hm3 hce3 hw0
        generalize (rowB (ks.take k)).length = W at *
        by_cases hk0 : k = 0
        · have hWW := HW0.out hk0
          subst hk0
          subst hWW
          by_cases hmW : m = 0
          · subst hmW
            rw [if_pos rfl]
            go_wp2_with fail
            refine (same_true (ks.take 0) vm (.slice al 0 cl) _ s2 s1).mono ?_
            rintro e w4 ⟨rfl, hb4⟩
            go_wp2_with fail
            go_ret
            exact ⟨rfl, h13.trans (hb4.mono h13.size)⟩
          · rw [if_neg hmW]
            have hmq : (((m : Nat) : Int) == 0) = false := by rw [beq_eq_false_iff_ne]; omega
            clear hmW
            go_wp2_with fail
            refine (same_true (ks.take 0) vm (.slice al 0 cl) _ s2 s1).mono ?_
            rintro e w4 ⟨rfl, hb4⟩
            go_wp2_with fail
            go_ret
            exact ⟨rfl, h13.trans (hb4.mono h13.size)⟩
        · obtain ⟨j, rfl⟩ : ∃ j, k = j + 1 := ⟨k - 1, by omega⟩
          obtain ⟨b3, e3, hc3⟩ := HC3.out j rfl
          subst e3
          clear HC3 HW0 hk0
          by_cases hmW : m = W
          · subst hmW
            rw [if_pos rfl]
            go_wp2_with fail
            refine (same_true (ks.take (j + 1)) vm (.slice al (j + 1) cl) _ s2 s1).mono ?_
            rintro e w4 ⟨rfl, hb4⟩
            go_wp2_with fail
            go_ret
            exact ⟨rfl, h13.trans (hb4.mono h13.size)⟩
          · rw [if_neg hmW]
            have hmq : (((m : Nat) : Int) == (W : Int)) = false := by rw [beq_eq_false_iff_ne]; omega
            clear hmW
            go_wp2_with fail
            refine (same_true (ks.take (j + 1)) vm (.slice al (j + 1) cl) _ s2 s1).mono ?_
            rintro e w4 ⟨rfl, hb4⟩
            go_wp2_with fail
            go_ret
            exact ⟨rfl, h13.trans (hb4.mono h13.size)⟩
end Go.Proofs.Ytndafpmngfcibaa
