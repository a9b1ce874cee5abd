/-
  The walks of may, members, last, numbers.
-/
import Derived.Test.YtmehcogaopackaaJRec
import Derived.Maps.AppendAt
namespace Go.Proofs.Ytmehcogaopackaa
open Go.RowKit
set_option linter.unusedVariables false
set_option linter.unusedSimpArgs false
theorem may_en (e : En) (hd : e.data.length ≤ maxLen) (w : World) :
    Calls Try.prog 34 #[.agg #[.int .u64 e.term, .int .i64 e.kind, .string (str e.data)]] w fun x w' => x = .returned (.bool (mayEn e)) ∧ Below w.heap.size w w' := by
  obtain ⟨t, k, d⟩ := e
  have hz : (str d).size = d.length := str_size _
  unfold maxLen at hd
  have HM := hid (show mayEn ⟨t, k, d⟩ = (decide (1 ≤ k) && (decide (k ≤ 3) && decide (d.length ≤ 2048))) from rfl)
  simp only at hd ⊢
  generalize mayEn ⟨t, k, d⟩ = m at HM ⊢
  by_cases h1 : 1 ≤ k
  · by_cases h2 : k ≤ 3
    · by_cases h3 : d.length ≤ 2048
      · have h3' : (d.length : Int) ≤ 2048 := by omega
        go_enter Try.func34, Try.ntmps34
        go_wp2_with fail
        go_ret
        rw [HM.out]
        exact ⟨by simp [h1, h2, h3], (Below.refl _ _).alloc (Nat.le_refl _) _⟩
      · have h3' : ¬ (d.length : Int) ≤ 2048 := by omega
        go_enter Try.func34, Try.ntmps34
        go_wp2_with fail
        go_ret
        rw [HM.out]
        exact ⟨by simp [h1, h2, h3], (Below.refl _ _).alloc (Nat.le_refl _) _⟩
    · go_enter Try.func34, Try.ntmps34
      go_wp2_with fail
      go_ret
      rw [HM.out]
      exact ⟨by rw [decide_eq_true h1, decide_eq_false (show ¬ k ≤ 3 by omega)]; rfl, (Below.refl _ _).alloc (Nat.le_refl _) _⟩
  · go_enter Try.func34, Try.ntmps34
    go_wp2_with fail
    go_ret
    rw [HM.out]
    exact ⟨by rw [decide_eq_false (show ¬ 1 ≤ k by omega)]; rfl, (Below.refl _ _).alloc (Nat.le_refl _) _⟩
/-- may a list stand for members, behind the one ahead of it -/
def membersF : Option Int → List Int → Bool
  | _, [] => true
  | pv, n :: r => decide (1 ≤ n) && (decide (n ≤ 5) && ((match pv with | none => true | some p => decide (p < n)) && membersF (some n) r))
def members (l : List Int) : Bool := membersF none l
theorem membersF_in : ∀ (l : List Int) (pv : Option Int), membersF pv l = true → ∀ n ∈ l, 1 ≤ n ∧ n ≤ 5
  | [], _, _ => by simp
  | m :: r, pv, h => by
    intro n hn
    simp only [membersF, Bool.and_eq_true, decide_eq_true_eq] at h
    rcases List.mem_cons.1 hn with rfl | hn
    · exact ⟨h.1, h.2.1⟩
    · exact membersF_in r _ h.2.2.2 n hn
theorem membersF_len : ∀ (l : List Int) (p : Int), membersF (some p) l = true → (l.length : Int) + p ≤ 5 ∨ l = []
  | [], _, _ => .inr rfl
  | m :: r, p, h => by
    simp only [membersF, Bool.and_eq_true, decide_eq_true_eq] at h
    rcases membersF_len r m h.2.2.2 with h1 | rfl
    · left; simp only [List.length_cons]; omega
    · left; simp only [List.length_cons, List.length_nil]; omega
theorem members_len (l : List Int) (h : members l = true) : l.length ≤ 5 := by
  cases l with
  | nil => simp
  | cons m r =>
    unfold members at h
    simp only [membersF, Bool.and_eq_true, decide_eq_true_eq] at h
    rcases membersF_len r m h.2.2.2 with h1 | rfl
    · simp only [List.length_cons]; omega
    · simp
def pvOf (l : List Int) (k : Nat) : Option Int := if k = 0 then none else l[k - 1]?
set_option maxHeartbeats 1000000 in
theorem members_any (l : List Int) (v : Value) (D : List Nat) (w : World) (hv : Cells D w v l.length (intVals l)) (hn : l.length ≤ 1152921504606846976) :
    Calls Try.prog 37 #[v] w fun x w' => x = .returned (.bool (members l)) ∧ w = w' := by
  obtain ⟨a, cap, rfl⟩ := hv.form
  obtain ⟨_, hcap, hcell⟩ := hv.at
  have HX := hid hcell
  clear hcell hv
  go_enter Try.func37, Try.ntmps37
  go_wp2_with fail
  go_loop [3, 4, 7] (fun _ _ i => ∃ k : Nat, i = .int .i64 k ∧ k ≤ l.length ∧ Hid (members l = membersF (pvOf l k) (l.drop k))) (fun _ _ i => l.length - (intOf i).toNat)
  case atStart => exact ⟨0, rfl, Nat.zero_le _, rfl⟩
  case round =>
    obtain ⟨k, rfl, hk, HR⟩ := hrel
    by_cases hlt : k < l.length
    · obtain ⟨b, off, rfl, hcell⟩ := HX.out (by rw [intVals_len]; omega)
      have hx := hcell w (Below.refl _ _) _ _ (intVals_at l k hlt)
      have HR1 := hid (show members l = (decide (1 ≤ l[k]) && (decide (l[k] ≤ 5) && ((match pvOf l k with | none => true | some p => decide (p < l[k])) && membersF (some l[k]) (l.drop (k + 1))))) by rw [HR.out, List.drop_eq_getElem_cons hlt]; rfl)
      have HP := hid (show pvOf l (k + 1) = some l[k] by unfold pvOf; rw [if_neg (by omega), Nat.add_sub_cancel, List.getElem?_eq_getElem hlt])
      clear HR
      by_cases h1 : 1 ≤ l[k]
      · by_cases h2 : l[k] ≤ 5
        · cases k with
          | zero =>
            clear hcell
            rw [Nat.add_zero] at hx
            have HR2 := hid (show members l = membersF (pvOf l (0 + 1)) (l.drop (0 + 1)) by rw [HR1.out, HP.out]; simp [h1, h2, pvOf])
            clear HR1 HP
            generalize l[0] = n at *
            go_wp2_with fail
            go_round
            case rel => exact ⟨0 + 1, by go_num, by omega, HR2.out⟩
            case measure => simp [intOf]; omega
          | succ m =>
            have hlm : m < l.length := by omega
            have hp := hcell w (Below.refl _ _) _ _ (intVals_at l m hlm)
            have HV := hid (show pvOf l (m + 1) = some l[m] by unfold pvOf; rw [if_neg (by omega), Nat.add_sub_cancel, List.getElem?_eq_getElem hlm])
            clear hcell
            rw [HV.out] at HR1
            by_cases h3 : l[m] < l[m + 1]
            · have HR2 := hid (show members l = membersF (pvOf l (m + 1 + 1)) (l.drop (m + 1 + 1)) by rw [HR1.out, HP.out]; simp [h1, h2, h3])
              clear HR1 HP HV
              generalize l[m + 1] = n at *
              generalize l[m] = n0 at *
              go_wp2_with fail
              go_round
              case rel => exact ⟨m + 1 + 1, by go_num, by omega, HR2.out⟩
              case measure => simp [intOf]; omega
            · have HR2 := hid (show members l = false by rw [HR1.out]; simp [h1, h2, h3])
              clear HR1 HP HV
              generalize l[m + 1] = n at *
              generalize l[m] = n0 at *
              have h3' : n0 ≥ n := by omega
              go_wp2_with fail
              go_ret
              rw [HR2.out]
              exact ⟨rfl, rfl⟩
        · have HR2 := hid (show members l = false by rw [HR1.out]; simp [h1, h2])
          clear HR1 HP hcell
          generalize l[k] = n at *
          have h2' : n > 5 := by omega
          go_wp2_with fail
          go_ret
          rw [HR2.out]
          exact ⟨rfl, rfl⟩
      · have HR2 := hid (show members l = false by rw [HR1.out]; simp [h1])
        clear HR1 HP hcell
        generalize l[k] = n at *
        have h1' : n < 1 := by omega
        go_wp2_with fail
        go_ret
        rw [HR2.out]
        exact ⟨rfl, rfl⟩
    · obtain rfl : k = l.length := by omega
      have HR2 := hid (show members l = true by rw [HR.out, List.drop_length]; rfl)
      clear HR
      go_wp2_with fail
      go_ret
      rw [HR2.out]
      exact ⟨rfl, rfl⟩
/-- a log's values -/
def lgAgg (g : Lg) (vc vl : Value) : Value := .agg #[.int .u64 g.base, .int .u64 g.bterm, vc, vl]
theorem last_any (base bterm : Nat) (vc : Value) (a : Option Addr) (n cap : Nat) (w : World) (hb : base + n < 18446744073709551616) (hn : n ≤ 9223372036854775807) :
    Calls Try.prog 31 #[.agg #[.int .u64 base, .int .u64 bterm, vc, .slice a n cap]] w fun x w' => x = .returned (.int .u64 ((base + n : Nat) : Int)) ∧ Below w.heap.size w w' := by
  have hw1 : IntKind.u64.wrap (n : Int) = (n : Int) := by rw [IntKind.wrap_u64]; omega
  have hw2 : IntKind.u64.wrap ((base : Int) + (n : Int)) = ((base + n : Nat) : Int) := by rw [IntKind.wrap_u64]; omega
  go_enter Try.func31, Try.ntmps31
  go_wp2_with fail
  go_ret
  exact ⟨rfl, (Below.refl _ _).alloc (Nat.le_refl _) _⟩
theorem infoU64 : (Try.prog.info? 23).map (fun i => (i.zero, i.size, i.bytes)) = some (some (.int .u64 0), 1, 8) := by kernel_rfl
def u64Vals (ns : List Nat) : List Value := ns.map fun (n : Nat) => Value.int .u64 (n : Int)
theorem holdsNums_row {w : World} {B : Nat} {v : Value} {ns : List Nat} (h : w.ownsRow B 23 1 v ns.length (u64Vals ns)) (hl : ns.length ≤ 1000000) (hn : ∀ n ∈ ns, n < top64) : HoldsNums w v ns := by
  have hlen : (u64Vals ns).length = ns.length := by simp [u64Vals]
  rcases h.2 with ⟨rfl, hz⟩ | ⟨g, cap, cur, rfl, _, hg, hc, _, hs, ht⟩
  · have : ns = [] := List.eq_nil_of_length_eq_zero hz
    subst this
    exact ⟨none, 0, rfl, by simp, by simp, fun h => by simp at h⟩
  · refine ⟨_, _, rfl, by omega, hn, fun _ => ⟨g, 0, rfl, fun j hj => ?_⟩⟩
    have hj2 : (cur.toList.take (ns.length * 1))[j]? = some (.int .u64 (ns[j] : Int)) := by rw [ht]; simp [u64Vals, hj]
    rw [List.getElem?_take] at hj2
    split at hj2
    · refine cell_in hg _ _ ?_
      rw [Nat.zero_add, ← Array.getElem?_toList]
      exact hj2
    · cases hj2
set_option maxRecDepth 100000 in
set_option maxHeartbeats 2000000 in
theorem numbers_any (ns : List Nat) (v : Value) (D : List Nat) (w : World) (hv : Cells D w v ns.length (intVals (ns.map fun (n : Nat) => (n : Int)))) (hn : ns.length ≤ 1000) (hs : ∀ n ∈ ns, n < 1000000) :
    Calls Try.prog 43 #[v] w fun x w' => x = .returned (.string (str (nums ns))) ∧ Below w.heap.size w w' := by
  obtain ⟨i0, hi, hz0, hz1, hz2⟩ := info_parts infoU64
  obtain ⟨a, cap, rfl⟩ := hv.form
  obtain ⟨_, hcap, hcell⟩ := hv.at
  have HX := hid hcell
  have HS := hid hs
  clear hcell hv hs
  go_enter Try.func43, Try.ntmps43
  go_wp2_with fail
  go_loopw [3, 5, 8] (fun vo _ i wr => ∃ k : Nat, i = .int .i64 k ∧ k ≤ ns.length ∧ wr.ownsRow w.heap.size 23 1 vo k (u64Vals (ns.take k)) ∧ Below w.heap.size w wr) (fun _ _ i _ => ns.length - (intOf i).toNat)
  case atStart => exact ⟨0, rfl, Nat.zero_le _, World.ownsRow_nil _ _ _ _, Below.refl _ _⟩
  case round =>
    obtain ⟨k, rfl, hk, ho, hB⟩ := hrel
    by_cases hlt : k < ns.length
    · obtain ⟨b, off, rfl, hcell⟩ := HX.out (by rw [intVals_len, List.length_map]; omega)
      have hx := hcell wr hB _ _ (intVals_at (ns.map fun (n : Nat) => (n : Int)) k (by rw [List.length_map]; exact hlt))
      rw [List.getElem_map] at hx
      have hsm := HS.out _ (List.getElem_mem hlt)
      have HT := hid (show u64Vals (ns.take (k + 1)) = u64Vals (ns.take k) ++ [.int .u64 (ns[k] : Int)] by unfold u64Vals; rw [List.take_succ_eq_append_getElem hlt, List.map_append]; rfl)
      have hBs := hB.size
      clear hcell
      generalize ns[k] = n at *
      have hw1 : IntKind.u64.wrap (n : Int) = (n : Int) := by rw [IntKind.wrap_u64]; omega
      go_wp2_with (at_builtin; refine wpList_append_own _ rfl _ _ 118 rfl w.heap.size 23 i0 (.int .u64 0) 1 8 Try.underlying118 hi hz0 hz1 hz2 rfl (by decide) _ _ _ rfl (ho.alloc _) ⟨wr.heap.size, 0, none⟩ 1 1 [.int .u64 (n : Int)] rfl rfl (cell_one_new _ _ _) (by simp [Value.oneCell']) (by unfold maxLen; omega) (by omega) (by simp; omega) ?_; intro v' w1 hown' hgrow _)
      have hB1 := (hB.alloc hBs _).grown hgrow (by simp; omega) (fun j hj => (ho.lt j hj).1)
      go_roundw
      case rel => exact ⟨k + 1, by go_num, by omega, by rw [HT.out]; exact hown', hB1⟩
      case measure => simp [intOf]; omega
    · obtain rfl : k = ns.length := by omega
      have HH := hid (holdsNums_row (ns := ns) (by rw [List.take_length] at ho; exact ho) (by omega) (fun n hn => by have := HS.out n hn; unfold top64; omega))
      go_wp2_with fail
      refine Calls.mono (nums_any _ _ _ HH.out) ?_
      rintro e w2 ⟨rfl, hb2⟩
      go_wp2_with fail
      go_ret
      exact ⟨rfl, hB.trans (hb2.mono hB.size)⟩
end Go.Proofs.Ytmehcogaopackaa
