/-
  The walks of the closures of the journal's Append and Rebase; slices.IndexFunc, slices.ContainsFunc with each.
-/
import Derived.Test.YtmehcogaopackaaJLog2
namespace Go.Proofs.Ytmehcogaopackaa
open Go.RowKit
set_option linter.unusedVariables false
set_option linter.unusedSimpArgs false
theorem sizeEn : (Try.prog.info? 50).map (·.size) = some 3 := by kernel_rfl
/-- has a list an entry that may not be -/
def anyBad (l : List En) : Bool := l.any fun e => !mayEn e
theorem anyBad_false {l : List En} (h : anyBad l = false) : ∀ e ∈ l, mayEn e = true := by
  intro e he
  unfold anyBad at h
  rw [List.any_eq_false] at h
  have := h e he
  simpa using this
theorem anyBad_drop {l : List En} {q : Nat} (hq : q < l.length) : anyBad (l.drop q) = (!mayEn l[q] || anyBad (l.drop (q + 1))) := by
  unfold anyBad
  rw [List.drop_eq_getElem_cons hq, List.any_cons]
theorem enVals_cell (l : List En) (q : Nat) (hq : q < l.length) : (enVals l)[3 * q]? = some (.int .u64 l[q].term) ∧ (enVals l)[3 * q + 1]? = some (.int .i64 l[q].kind) ∧ (enVals l)[3 * q + 2]? = some (.string (str l[q].data)) := by
  induction l generalizing q with
  | nil => simp at hq
  | cons a l ih =>
    cases q with
    | zero => exact ⟨rfl, rfl, rfl⟩
    | succ q =>
      have h := ih q (by simpa using hq)
      have hc : ∀ k, (enVals (a :: l))[3 * (q + 1) + k]? = (enVals l)[3 * q + k]? := fun k => by
        show ([.int .u64 a.term, .int .i64 a.kind, .string (str a.data)] ++ enVals l)[3 * (q + 1) + k]? = _
        rw [List.getElem?_append_right (by simp; omega)]
        congr 1
        simp
        omega
      exact ⟨(hc 0).trans h.1, (hc 1).trans h.2.1, (hc 2).trans h.2.2⟩
set_option maxRecDepth 100000 in
set_option maxHeartbeats 2000000 in
theorem badA_any (e : En) (hd : e.data.length ≤ maxLen) (w : World) :
    Calls Try.prog 33 #[.agg #[.int .u64 e.term, .int .i64 e.kind, .string (str e.data)]] w fun x w' => x = .returned (.bool (!mayEn e)) ∧ Below w.heap.size w w' := by
  have hb : Below w.heap.size w (w.alloc (.cells #[.int .u64 e.term, .int .i64 e.kind, .string (str e.data)] 50)) := (Below.refl _ _).alloc (Nat.le_refl _) _
  have hk := heap_alloc_new w (.cells #[.int .u64 e.term, .int .i64 e.kind, .string (str e.data)] 50)
  have HM := hid (may_en e hd (w.alloc (.cells #[.int .u64 e.term, .int .i64 e.kind, .string (str e.data)] 50)))
  have hnot : ∀ (x : Bool) (w : World), (Op.unary .not (.bool x)).run Try.prog w = .ok (.bool (!x)) w := fun _ _ => rfl
  have HB := hid hb
  have HK := hid hk
  clear hb hk
  generalize mayEn e = m at *
  go_enter Try.func33, Try.ntmps33
  go_wp2_with (refine wpList_load_row rfl 50 _ rfl w.heap.size (by rfl) 50 _ (0, 0) _ HK.out Try.underlying50 rfl sizeEn ?_)
  refine Calls.mono HM.out ?_
  rintro e w2 ⟨rfl, hb2⟩
  have HB2 := hid (HB.out.trans (hb2.mono HB.out.size))
  clear hb2
  go_wp2_with fail
  go_ret
  exact ⟨rfl, HB2.out⟩
set_option maxRecDepth 100000 in
set_option maxHeartbeats 4000000 in
theorem indexA_any {l : List En} {v : Value} {W : World} (hv : Cells [] W v l.length (enVals l)) (hl : l.length ≤ 1000000) (hd : ∀ e ∈ l, e.data.length ≤ maxLen) :
    Calls Try.prog 63 #[v, .func (.func 33) #[] #[]] W fun x W' => (∃ n : Int, x = .returned (.int .i64 n) ∧ decide (0 ≤ n) = anyBad l) ∧ Below W.heap.size W W' := by
  obtain ⟨a, cap, rfl⟩ := hv.form
  obtain ⟨_, hcap, hcell⟩ := hv.at
  have HX := hid hcell
  clear hcell hv
  go_enter Try.func63, Try.ntmps63
  go_wp2_with fail
  go_loopw [8] (fun i wr => ∃ q : Nat, i = .int .i64 q ∧ q ≤ l.length ∧ Below W.heap.size W wr ∧ Hid (anyBad l = anyBad (l.drop q))) (fun i _ => l.length - (intOf i).toNat)
  case atStart => exact ⟨0, rfl, Nat.zero_le _, Below.refl _ _, rfl⟩
  case round =>
    obtain ⟨q, rfl, hq, hb, HR⟩ := hrel
    by_cases hlt : q < l.length
    · obtain ⟨b, off, rfl, hcell⟩ := HX.out (by rw [enVals_len]; omega)
      have he := enVals_cell l q hlt
      have c0 := hcell wr hb _ _ he.1
      have c1 := hcell wr hb _ _ he.2.1
      have c2 := hcell wr hb _ _ he.2.2
      have hdq := hd l[q] (List.getElem_mem hlt)
      have HD := hid (anyBad_drop hlt)
      have HB := hid hb
      clear hcell he hb
      generalize l[q] = x at *
      have hmul : off + q * 3 = off + 3 * q := by omega
      have hm1 : off + 3 * q + 1 = off + (3 * q + 1) := by omega
      have hm2 : off + 3 * q + 2 = off + (3 * q + 2) := by omega
      go_wp2_with fail
      refine Calls.mono (badA_any x hdq wr) ?_
      rintro e w2 ⟨rfl, hb2⟩
      have HB2 := hid (HB.out.trans (hb2.mono HB.out.size))
      clear hb2 c0 c1 c2
      cases hm : mayEn x
      · have HF := hid (show anyBad l = true by rw [HR.out, HD.out, hm]; rfl)
        clear HD HR
        go_wp2_with fail
        go_ret
        exact ⟨⟨_, rfl, by rw [HF.out]; exact decide_eq_true (Int.natCast_nonneg q)⟩, HB2.out⟩
      · have HF := hid (show anyBad l = anyBad (l.drop (q + 1)) by rw [HR.out, HD.out, hm]; rfl)
        clear HD HR
        go_wp2_with fail
        go_roundw
        case rel => exact ⟨q + 1, by go_num, by omega, HB2.out, HF.out⟩
        case measure => simp [intOf]; omega
    · obtain rfl : q = l.length := by omega
      have HR2 := hid (show anyBad l = false by rw [HR.out, List.drop_length]; rfl)
      clear HR
      go_wp2_with fail
      go_ret
      exact ⟨⟨_, rfl, by rw [HR2.out]; rfl⟩, hb⟩
set_option maxRecDepth 100000 in
set_option maxHeartbeats 2000000 in
theorem containsA_any {l : List En} {v : Value} {W : World} (hv : Cells [] W v l.length (enVals l)) (hl : l.length ≤ 1000000) (hd : ∀ e ∈ l, e.data.length ≤ maxLen) :
    Calls Try.prog 32 #[v, .func (.func 33) #[] #[]] W fun x W' => x = .returned (.bool (anyBad l)) ∧ Below W.heap.size W W' := by
  have HI := hid (indexA_any hv hl hd)
  obtain ⟨a, cap, rfl⟩ := hv.form
  clear hv
  go_enter Try.func32, Try.ntmps32
  go_wp2_with fail
  refine Calls.mono HI.out ?_
  rintro e w2 ⟨⟨n, rfl, hn⟩, hb2⟩
  have HN := hid hn
  clear hn
  go_wp2_with fail
  go_ret
  exact ⟨by rw [← HN.out]; rfl, hb2⟩
set_option maxRecDepth 100000 in
set_option maxHeartbeats 2000000 in
theorem badR_any (e : En) (hd : e.data.length ≤ maxLen) (w : World) :
    Calls Try.prog 38 #[.agg #[.int .u64 e.term, .int .i64 e.kind, .string (str e.data)]] w fun x w' => x = .returned (.bool (!mayEn e)) ∧ Below w.heap.size w w' := by
  have hb : Below w.heap.size w (w.alloc (.cells #[.int .u64 e.term, .int .i64 e.kind, .string (str e.data)] 50)) := (Below.refl _ _).alloc (Nat.le_refl _) _
  have hk := heap_alloc_new w (.cells #[.int .u64 e.term, .int .i64 e.kind, .string (str e.data)] 50)
  have HM := hid (may_en e hd (w.alloc (.cells #[.int .u64 e.term, .int .i64 e.kind, .string (str e.data)] 50)))
  have hnot : ∀ (x : Bool) (w : World), (Op.unary .not (.bool x)).run Try.prog w = .ok (.bool (!x)) w := fun _ _ => rfl
  have HB := hid hb
  have HK := hid hk
  clear hb hk
  generalize mayEn e = m at *
  go_enter Try.func38, Try.ntmps38
  go_wp2_with (refine wpList_load_row rfl 50 _ rfl w.heap.size (by rfl) 50 _ (0, 0) _ HK.out Try.underlying50 rfl sizeEn ?_)
  refine Calls.mono HM.out ?_
  rintro e w2 ⟨rfl, hb2⟩
  have HB2 := hid (HB.out.trans (hb2.mono HB.out.size))
  clear hb2
  go_wp2_with fail
  go_ret
  exact ⟨rfl, HB2.out⟩
set_option maxRecDepth 100000 in
set_option maxHeartbeats 4000000 in
theorem indexR_any {l : List En} {v : Value} {W : World} (hv : Cells [] W v l.length (enVals l)) (hl : l.length ≤ 1000000) (hd : ∀ e ∈ l, e.data.length ≤ maxLen) :
    Calls Try.prog 63 #[v, .func (.func 38) #[] #[]] W fun x W' => (∃ n : Int, x = .returned (.int .i64 n) ∧ decide (0 ≤ n) = anyBad l) ∧ Below W.heap.size W W' := by
  obtain ⟨a, cap, rfl⟩ := hv.form
  obtain ⟨_, hcap, hcell⟩ := hv.at
  have HX := hid hcell
  clear hcell hv
  go_enter Try.func63, Try.ntmps63
  go_wp2_with fail
  go_loopw [8] (fun i wr => ∃ q : Nat, i = .int .i64 q ∧ q ≤ l.length ∧ Below W.heap.size W wr ∧ Hid (anyBad l = anyBad (l.drop q))) (fun i _ => l.length - (intOf i).toNat)
  case atStart => exact ⟨0, rfl, Nat.zero_le _, Below.refl _ _, rfl⟩
  case round =>
    obtain ⟨q, rfl, hq, hb, HR⟩ := hrel
    by_cases hlt : q < l.length
    · obtain ⟨b, off, rfl, hcell⟩ := HX.out (by rw [enVals_len]; omega)
      have he := enVals_cell l q hlt
      have c0 := hcell wr hb _ _ he.1
      have c1 := hcell wr hb _ _ he.2.1
      have c2 := hcell wr hb _ _ he.2.2
      have hdq := hd l[q] (List.getElem_mem hlt)
      have HD := hid (anyBad_drop hlt)
      have HB := hid hb
      clear hcell he hb
      generalize l[q] = x at *
      have hmul : off + q * 3 = off + 3 * q := by omega
      have hm1 : off + 3 * q + 1 = off + (3 * q + 1) := by omega
      have hm2 : off + 3 * q + 2 = off + (3 * q + 2) := by omega
      go_wp2_with fail
      refine Calls.mono (badR_any x hdq wr) ?_
      rintro e w2 ⟨rfl, hb2⟩
      have HB2 := hid (HB.out.trans (hb2.mono HB.out.size))
      clear hb2 c0 c1 c2
      cases hm : mayEn x
      · have HF := hid (show anyBad l = true by rw [HR.out, HD.out, hm]; rfl)
        clear HD HR
        go_wp2_with fail
        go_ret
        exact ⟨⟨_, rfl, by rw [HF.out]; exact decide_eq_true (Int.natCast_nonneg q)⟩, HB2.out⟩
      · have HF := hid (show anyBad l = anyBad (l.drop (q + 1)) by rw [HR.out, HD.out, hm]; rfl)
        clear HD HR
        go_wp2_with fail
        go_roundw
        case rel => exact ⟨q + 1, by go_num, by omega, HB2.out, HF.out⟩
        case measure => simp [intOf]; omega
    · obtain rfl : q = l.length := by omega
      have HR2 := hid (show anyBad l = false by rw [HR.out, List.drop_length]; rfl)
      clear HR
      go_wp2_with fail
      go_ret
      exact ⟨⟨_, rfl, by rw [HR2.out]; rfl⟩, hb⟩
set_option maxRecDepth 100000 in
set_option maxHeartbeats 2000000 in
theorem containsR_any {l : List En} {v : Value} {W : World} (hv : Cells [] W v l.length (enVals l)) (hl : l.length ≤ 1000000) (hd : ∀ e ∈ l, e.data.length ≤ maxLen) :
    Calls Try.prog 32 #[v, .func (.func 38) #[] #[]] W fun x W' => x = .returned (.bool (anyBad l)) ∧ Below W.heap.size W W' := by
  have HI := hid (indexR_any hv hl hd)
  obtain ⟨a, cap, rfl⟩ := hv.form
  clear hv
  go_enter Try.func32, Try.ntmps32
  go_wp2_with fail
  refine Calls.mono HI.out ?_
  rintro e w2 ⟨⟨n, rfl, hn⟩, hb2⟩
  have HN := hid hn
  clear hn
  go_wp2_with fail
  go_ret
  exact ⟨by rw [← HN.out]; rfl, hb2⟩
end Go.Proofs.Ytmehcogaopackaa
