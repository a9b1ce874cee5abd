/-
  The walk of the journal's Open.
-/
import Derived.Deep.Cut
import Derived.Deep.CutRange
import Derived.Test.YtmehcogaopackaaGreatJOpen1
namespace Go.Proofs.YtmehcogaopackaaGreat
open Go.RowKit
set_option linter.unusedVariables false
set_option linter.unusedSimpArgs false
theorem After.trans2 {W W1 W2 : World} {p : Nat} {F : List Nat} {d1 d2 : Ds} (h : After W p F d1 W1) (g : ∀ F1, DkAt W1 p F1 d1 → After W1 p F1 d2 W2) : After W p F d2 W2 := by
  obtain ⟨F1, h1, h2, h3⟩ := h
  exact After.trans h3 h2 (g F1 h1)
theorem After.belowB {W W1 W2 : World} {p : Nat} {F : List Nat} {d1 : Ds} (h : After W p F d1 W1) (hb : Below W1.heap.size W1 W2) : After W p F d1 W2 := h.trans2 fun F1 h1 => After.same h1 hb
theorem After.row {W W' : World} {p : Nat} {F : List Nat} {d : Ds} {B : Nat} {e : TypeId} {sz : Nat} {v : Value} {n : Nat} {xs : List Value} (ha : After W p F d W') (h : W.ownsRow B e sz v n xs) (hF : ∀ b ∈ F, b < B) : W'.ownsRow B e sz v n xs := by
  obtain ⟨F', _, _, t⟩ := ha
  exact ownsRow_of_block h fun r hr => t.block (h.lt r hr).2 (fun hm => by have := hF r hm; have := (h.lt r hr).1; omega)
theorem strs_bodies (s : Bytes) : strs (scan s 0).1 = strVals (allOf s).1 := by
  unfold strVals allOf
  simp only [List.map_map]
  rfl
theorem bodies_len (s : Bytes) : (allOf s).1.length = (scan s 0).1.length := by simp [allOf]
theorem bodies_small (s : Bytes) : ∀ x ∈ (allOf s).1, x.length ≤ 65536 := by
  have h : ∀ (f p : Nat), ∀ x ∈ (scanF s f p).1, x.2.length ≤ 65536 := by
    intro f
    induction f with
    | zero => intro p x hx; simp [scanF] at hx
    | succ f ih =>
      intro p x hx
      simp only [scanF] at hx
      split at hx
      · rename_i hc
        rcases List.mem_cons.1 hx with rfl | hx
        · exact (cutOf_fine hc.2).2.2
        · exact ih _ x hx
      · simp at hx
  intro x hx
  unfold allOf at hx
  simp only [List.mem_map] at hx
  obtain ⟨y, hy, rfl⟩ := hx
  exact h _ _ y hy
theorem up_log (S : Js) : S.up.log = S.log := by unfold Js.up; split <;> rfl
theorem box_jn (p : Nat) (S : Js) (z : Nat) (vc vl : Value) : Array.foldl (fun cs x => cs.setIfInBounds (1 + x.snd) x.fst) #[Value.pointer (some ⟨p, 0, none⟩), Value.int IntKind.u64 0, Value.int IntKind.i64 0, Value.int IntKind.u64 0, Value.int IntKind.u64 0, Value.int IntKind.u64 0, Value.slice none 0 0, Value.slice none 0 0, Value.string { data := #[] }, Value.int IntKind.u64 0]
          (stCells S z vc vl).zipIdx 0 9 = jnCells p S z vc vl := by
  simp [stCells, jnCells]
/-- how Open ends -/
def OpenPost (W : World) (p : Nat) (F : List Nat) (r : Ds × Option Js × Nat) (e : Ending) (W' : World) : Prop :=
  match r.2.1 with
  | none => e = .returned (.tuple #[.pointer none, .int .i64 (r.2.2 : Nat)]) ∧ After W p F r.1 W'
  | some S => ∃ j G, e = .returned (.tuple #[.pointer (some ⟨j, 0, none⟩), .int .i64 0]) ∧ JnAt W' j p G r.1 S ∧ (∀ b ∈ G, b ∈ F ∨ W.heap.size ≤ b) ∧ Turn F W W' ∧ W.heap.size ≤ j
set_option maxRecDepth 100000 in
set_option maxHeartbeats 4000000 in
theorem open_journal {W : World} {p : Nat} {F : List Nat} {d : Ds} {n : Nat} (h : DkAt W p F d) (hok : d.Ok n) (hn : n ≤ 900000) :
    Calls Tryz.prog 12 #[.pointer (some ⟨p, 0, none⟩)] W fun e W' => OpenPost W p F (jOpen d) e W' := by
  have HR := hid (read_any h)
  have H := hid h
  clear h
  go_enter Tryz.func12, Tryz.ntmps12
  go_upto_if 17 with (go_at_call 42; refine Calls.mono HR.out ?_; rintro e w' ⟨rfl, rfl⟩)
  go_cut [4, 5] from 11 (fun s4 s5 wc => s4 = .string (str (jOpen1 d).1) ∧ s5 = .int .i64 ((jOpen1 d).2.2 : Nat) ∧ After W p F (jOpen1 d).2.1 wc)
  case first =>
    by_cases h6 : d.read.2 = 6
    · have H1 := hid (show jOpen1 d = (fileB Js.zero, Ds.sync' (d.puts (fileB Js.zero))) from if_pos h6)
      have HP := hid (hok.puts (fileB Js.zero))
      rw [h6]
      go_wp2_with fail
      refine Calls.mono (whole_zero _) ?_
      rintro e w1 ⟨rfl, hb1⟩
      have H2 := hid (H.out.below hb1)
      have HB1 := hid hb1
      clear hb1
      go_wp2_with fail
      refine Calls.mono (put_any H2.out hok.1 (by have := hok.2; omega) _ (by have := fileZero_len; omega)) ?_
      rintro e w2 ⟨rfl, ha⟩
      have HA2 := hid (After.trans (F1 := F) (Turn.below HB1.out) (fun _ h => .inl h) ha)
      clear ha
      obtain ⟨F2, hd2, hf2, ht2⟩ := HA2.out
      have HD2 := hid hd2
      have HF2 := hid hf2
      have HT2 := hid ht2
      clear hd2 hf2 ht2 HA2
      go_wp2_with fail
      refine Calls.mono (jsync_any HD2.out HP.out.1.1 HP.out.2) ?_
      rintro e w3 ⟨rfl, ha⟩
      have HA3 := hid (After.trans HT2.out HF2.out ha)
      clear ha
      go_wp2_with fail
      go_meet
      case rel =>
        rw [H1.out]
        exact ⟨rfl, rfl, HA3.out⟩
    · have H1 := hid (show jOpen1 d = (d.read.1, (d, d.read.2)) from if_neg h6)
      have h6' : ((d.read.2 : Int) == 6) = false := by simp only [beq_eq_false_iff_ne, ne_eq]; omega
      have h6'' : ¬ ((d.read.2 : Int) = 6) := by omega
      go_wp2_with fail
      go_meet
      case rel =>
        rw [H1.out]
        exact ⟨rfl, rfl, .same H.out (Below.refl _ _)⟩
  case rest =>
    obtain ⟨rfl, rfl, ha⟩ := hcut
    have HO1 := hid (jOpen1_ok hok)
    have HA := hid ha
    have HJ := hid (show jOpen d = if (jOpen1 d).2.2 ≠ 0 then ((jOpen1 d).2.1, none, (jOpen1 d).2.2) else
      if (jOpen2 (jOpen1 d).2.1 (jOpen1 d).1).2 ≠ 0 then ((jOpen2 (jOpen1 d).2.1 (jOpen1 d).1).1, none, (jOpen2 (jOpen1 d).2.1 (jOpen1 d).1).2) else
      jOpen3 (jOpen2 (jOpen1 d).2.1 (jOpen1 d).1).1 (allOf (jOpen1 d).1).1 from rfl)
    clear ha HR H
    obtain ⟨s, d1, e1, hq1⟩ : ∃ s d1 e1, jOpen1 d = (s, (d1, e1)) := ⟨_, _, _, rfl⟩
    rw [hq1] at HJ HA HO1 ⊢
    simp only at HJ HA HO1 ⊢
    clear hq1 hok
    by_cases he1 : e1 = 0
    · subst he1
      have HJ1 := hid (HJ.out.trans (if_neg (by simp)))
      clear HJ
      obtain ⟨F1, hd1, hf1, ht1⟩ := HA.out
      have HD1 := hid hd1
      have HF1 := hid hf1
      have HT1 := hid ht1
      clear hd1 hf1 ht1 HA
      have hsl : s.length ≤ 1048576 := HO1.out.2.2
      have hcn := allOf_count s
      have hsz : (str s).size = s.length := str_size _
      have HALL := hid (show Calls Tryz.prog 45 #[.string (str s)] wc fun e W' => ∃ v, e = .returned (.tuple #[v, .int .i64 ((allOf s).2.1 : Nat), .int .i64 ((allOf s).2.2 : Nat)]) ∧
        W'.ownsRow wc.heap.size 9 1 v (allOf s).1.length (strVals (allOf s).1) ∧ Below wc.heap.size wc W' by
          rw [← strs_bodies, bodies_len]
          exact all_in (str s) (by rw [hsz]; unfold maxLen; omega) (by show (scan s 0).1.length * 16 ≤ _; omega) wc)
      have hbl := bodies_len s
      have hbs := bodies_small s
      have hnl : (scan s 0).2 ≤ s.length := allOf_le s
      have hnn : (allOf s).2.1 = (scan s 0).2 := rfl
      rw [← hbl] at hcn
      rw [← hnn] at hnl
      clear hbl hnn
      have H2O := hid (show jOpen2 d1 s = if (allOf s).2.2 = 3 then Ds.sync' (d1.puts (s.take (allOf s).2.1)) else (d1, (allOf s).2.2) from rfl)
      have HOK2 := hid (jOpen2_ok HO1.out.1 s)
      generalize allOf s = al at *
      obtain ⟨xs, nn, e2⟩ := al
      simp only at HALL H2O hbs hcn hnl HJ1
      generalize jOpen2 d1 s = q2 at *
      go_upto_if 35 with (go_at_call 45; refine Calls.mono HALL.out ?_; rintro e w2 ⟨v, rfl, hrow, hb2⟩)
      have HD2 := hid (HD1.out.below hb2)
      have HROW := hid hrow
      have HB2 := hid hb2
      have hvl := own_form hrow
      obtain ⟨av, cv, rfl⟩ := hvl
      clear hb2 hrow HALL
      have HAF : Hid (∀ d' W', After w2 p F1 d' W' → After W p F d' W' ∧ W'.ownsRow wc.heap.size 9 1 (.slice av xs.length cv) xs.length (strVals xs)) := fun d' W' ha =>
        ⟨After.trans (HT1.out.trans (Turn.below (F := []) HB2.out) (by simp)) (fun b hb => HF1.out b hb) ha, ha.row HROW.out HD1.out.lt⟩
      go_cut [5] from 28 (fun s5 w5 => s5 = .int .i64 (q2.2 : Nat) ∧ After W p F q2.1 w5 ∧ w5.ownsRow wc.heap.size 9 1 (.slice av xs.length cv) xs.length (strVals xs))
      case first =>
        by_cases h3 : e2 = 3
        · subst h3
          have HQ2 := hid (H2O.out.trans (if_pos rfl))
          have HP := hid (HO1.out.1.puts (s.take nn))
          have hex : (str s).extract 0 nn = str (s.take nn) := by rw [extract_str, str_data, List.drop_zero, Nat.sub_zero]
          have htk := take_le s nn
          clear H2O
          go_wp2_with fail
          refine Calls.mono (put_any HD2.out HO1.out.1.1 (by have := HO1.out.1.2; omega) _ (by omega)) ?_
          rintro e w3 ⟨rfl, ha⟩
          have HA3 := hid ha
          obtain ⟨F3, hd3, hf3, ht3⟩ := HA3.out
          have HD3 := hid hd3
          have HF3 := hid hf3
          have HT3 := hid ht3
          clear ha hd3 hf3 ht3 HA3
          go_wp2_with fail
          refine Calls.mono (jsync_any HD3.out HP.out.1.1 HP.out.2) ?_
          rintro e w4 ⟨rfl, ha⟩
          have HA4 := hid (After.trans HT3.out HF3.out ha)
          clear ha
          go_wp2_with fail
          go_meet
          case rel =>
            rw [HQ2.out]
            exact ⟨rfl, (HAF.out _ _ HA4.out).1, (HAF.out _ _ HA4.out).2⟩
        · have HQ2 := hid (H2O.out.trans (if_neg h3))
          have h3a : ((e2 : Int) == 3) = false := by simp only [beq_eq_false_iff_ne, ne_eq]; omega
          have h3b : ¬ ((e2 : Int) = 3) := by omega
          clear H2O h3
          go_wp2_with fail
          go_meet
          case rel =>
            rw [HQ2.out]
            have ha := After.same HD2.out (Below.refl _ _)
            exact ⟨rfl, (HAF.out _ _ ha).1, (HAF.out _ _ ha).2⟩
      case rest =>
        obtain ⟨rfl, ha5, hr5⟩ := hcut
        have HA5 := hid ha5
        have HR5 := hid hr5
        clear ha5 hr5 HAF HROW HD2 HB2 H2O HD1 HF1 HT1 HO1
        obtain ⟨d2, e3⟩ := q2
        simp only at HJ1 HOK2 HA5 ⊢
        by_cases he3 : e3 = 0
        · subst he3
          have HJ2 := hid (HJ1.out.trans (if_neg (by simp)))
          clear HJ1
          have HCE := hid (Cells.of_row (D := []) HR5.out (by simp))
          obtain ⟨F5, hd5, hf5, ht5⟩ := HA5.out
          have HWS : Hid (W.heap.size ≤ wc.heap.size) := ht5.size
          have HD5 := hid hd5
          have HF5 := hid hf5
          have HT5 := hid ht5
          have HN5 := hid hd5.lt
          clear hd5 hf5 ht5
          go_wp2_with fail
          refine Calls.mono (jread_any xs _ _ HCE.out hbs (by omega)) ?_
          rintro e w6 ⟨hb6, hp6⟩
          have HA6 := hid (HA5.out.belowB hb6)
          have HD6 := hid (HD5.out.below hb6)
          have HT6 := hid (HT5.out.trans (Turn.below (F := []) hb6) (by simp))
          have HW6 : Hid (W.heap.size ≤ w6.heap.size) := Nat.le_trans HWS.out hb6.size
          have HW7 : Hid (wc.heap.size ≤ w6.heap.size) := hb6.size
          clear hb6
          cases hrd : rd xs with
          | none =>
            rw [hrd] at hp6
            have he6 : e = .returned (.tuple #[.agg stZ, .bool false]) := hp6
            subst he6
            have HJ3 := hid (HJ2.out.trans (show jOpen3 d2 xs = (d2, none, 4) by unfold jOpen3; rw [hrd]))
            have hk8 := heap_alloc_new w6 (.cells stZ 98)
            have HAE : Hid (After W p F d2 ((w6.alloc (.cells stZ 98)).setRow w6.heap.size stZ)) := hid (HA6.out.belowB (below_row ((Below.refl _ _).alloc (Nat.le_refl _) _) (Nat.le_refl _) _))
            clear hrd hp6 HJ2
            go_wp2_with (refine wpList_store_row rfl 98 _ _ rfl w6.heap.size stZ (by rfl) (by rfl) 98 _ hk8 sizeSt rfl (by simp [stZ, Value.oneCell']) ?_)
            go_ret2
            rw [HJ3.out]
            exact ⟨rfl, HAE.out⟩
          | some S =>
            rw [hrd] at hp6
            obtain ⟨z, vc, vl, hz6, rfl, hr1, hr2⟩ := hp6
            obtain ⟨ac, cc, rfl⟩ := own_form hr1
            obtain ⟨al, cl, rfl⟩ := own_form hr2
            have HJ3 := hid (HJ2.out.trans (show jOpen3 d2 xs = if (Ds.sync' (d2.add (hardRec S.up.hard))).2 ≠ 0 then ((Ds.sync' (d2.add (hardRec S.up.hard))).1, none, (Ds.sync' (d2.add (hardRec S.up.hard))).2) else ((Ds.sync' (d2.add (hardRec S.up.hard))).1, some S.up, 0) by unfold jOpen3; rw [hrd]))
            have HSO := hid (rd_ok hrd)
            have HR1 := hid hr1
            have HR2 := hid hr2
            clear hrd hr1 hr2 HJ2
            generalize hvc : Value.slice ac S.log.conf.length cc = vc at *
            generalize hvl : Value.slice al S.log.l.length cl = vl at *
            have hone : (stCells S z vc vl).all (·.oneCell') = true := by subst hvc hvl; simp [stCells, Value.oneCell']
            have hk7 := heap_alloc_new w6 (.cells #[.int .u64 0, .int .i64 0, .int .u64 0, .int .u64 0, .int .u64 0, .slice none 0 0, .slice none 0 0, .string { data := #[] }, .int .u64 0] 98)
            have hk8 := setRow_heap (w6.alloc (.cells #[.int .u64 0, .int .i64 0, .int .u64 0, .int .u64 0, .int .u64 0, .slice none 0 0, .slice none 0 0, .string { data := #[] }, .int .u64 0] 98)) w6.heap.size _ (stCells S z vc vl) _ (0, 0) hk7
            have hb8 : Below w6.heap.size w6 ((w6.alloc (.cells #[.int .u64 0, .int .i64 0, .int .u64 0, .int .u64 0, .int .u64 0, .slice none 0 0, .slice none 0 0, .string { data := #[] }, .int .u64 0] 98)).setRow w6.heap.size (stCells S z vc vl)) := below_row ((Below.refl _ _).alloc (Nat.le_refl _) _) (Nat.le_refl _) _
            have HD8 := hid (HD6.out.below hb8)
            have HT8 := hid (HT6.out.trans (Turn.below (F := []) hb8) (by simp))
            have HR18 := hid (ownsRow_of_block HR1.out fun r hr => hb8.block r (HR1.out.lt r hr).2)
            have HR28 := hid (ownsRow_of_block HR2.out fun r hr => hb8.block r (HR2.out.lt r hr).2)
            have HK8 := hid hk8
            have c2 : ((w6.alloc (.cells #[.int .u64 0, .int .i64 0, .int .u64 0, .int .u64 0, .int .u64 0, .slice none 0 0, .slice none 0 0, .string { data := #[] }, .int .u64 0] 98)).setRow w6.heap.size (stCells S z vc vl)).cell? ⟨w6.heap.size, 2, none⟩ = some (.int .u64 S.hard.life) := cell_in hk8 2 _ rfl
            have f2 : ((w6.alloc (.cells #[.int .u64 0, .int .i64 0, .int .u64 0, .int .u64 0, .int .u64 0, .slice none 0 0, .slice none 0 0, .string { data := #[] }, .int .u64 0] 98)).setRow w6.heap.size (stCells S z vc vl)).frozen? ⟨w6.heap.size, 2, none⟩ = false := free_in hk8 2
            clear hb8 hk8 HR5 HCE HA5 HD5 HT5 HA6 HD6 HT6
            go_upto_if 56 with (refine wpList_store_row rfl 98 _ _ rfl w6.heap.size (stCells S z vc vl) (by rfl) (by rfl) 98 _ hk7 sizeSt rfl hone ?_)
            clear hk7
            generalize hw8 : (w6.alloc (.cells #[.int .u64 0, .int .i64 0, .int .u64 0, .int .u64 0, .int .u64 0, .slice none 0 0, .slice none 0 0, .string { data := #[] }, .int .u64 0] 98)).setRow w6.heap.size (stCells S z vc vl) = w8 at *
            have hko8 : W.heap.size ≤ w6.heap.size := HW6.out
            generalize w6.heap.size = k8 at *
            clear hw8 hvc hvl hone
            go_cut [] from 11 (fun w9 => w9.heap[k8]? = some (.cells (stCells S.up z vc vl) 98) ∧ Turn [k8] w8 w9)
            case first =>
              by_cases hl : S.hard.life < 9223372036854775807
              · have HU := hid (show S.up = ⟨⟨S.hard.term, S.hard.vote, S.hard.life + 1⟩, S.log, S.image⟩ from if_pos hl)
                have hli : (S.hard.life : Int) < 9223372036854775807 := by omega
                have hwl : IntKind.u64.wrap ((S.hard.life : Int) + 1) = ((S.hard.life + 1 : Nat) : Int) := by rw [IntKind.wrap_u64]; omega
                rw [show decide ((S.hard.life : Int) < 9223372036854775807) = true from decide_eq_true hli]
                go_wp2_with fail
                go_meet
                case rel =>
                  rw [HU.out]
                  exact ⟨heap_set HK8.out 2 _, Turn.set _ _ _ _ (by simp)⟩
              · have HU := hid (show S.up = S from if_neg hl)
                have hli : ¬ ((S.hard.life : Int) < 9223372036854775807) := by omega
                rw [show decide ((S.hard.life : Int) < 9223372036854775807) = false from decide_eq_false hli]
                go_wp2_with fail
                go_meet
                case rel =>
                  rw [HU.out]
                  exact ⟨HK8.out, Turn.refl _ _⟩
            case rest =>
              obtain ⟨hk9, ht9⟩ := hcut
              have HK9 := hid hk9
              have hk8n : ∀ r, (vc.ownBlock = some r ∨ vl.ownBlock = some r) → r ≠ k8 := fun r hr => by
                rcases hr with hr | hr
                · intro e; subst e; exact own_ne HR18.out HK8.out (fun cur e => by cases e) hr.symm
                · intro e; subst e; exact own_ne HR28.out HK8.out (fun cur e => by cases e) hr.symm
              have HR19 := hid (ownsRow_of_block HR18.out fun r hr => ht9.block (HR18.out.lt r hr).2 (by simpa using hk8n r (.inl hr)))
              have HR29 := hid (ownsRow_of_block HR28.out fun r hr => ht9.block (HR28.out.lt r hr).2 (by simpa using hk8n r (.inr hr)))
              have HK8N := hid hk8n
              have hk5 : k8 ∉ F5 := fun hm => by have := HN5.out k8 hm; have := HW7.out; omega
              have HK5 := hid hk5
              have HD9 := hid (HD8.out.turn ht9 (by simpa using hk5))
              have HT9 := hid (HT8.out.trans ht9 (by simp; exact .inr hko8))
              clear ht9 hk8n HD8 HT8 HR18 HR28 HK8 hk9 hk5
              have HUO := hid (JsOk.up HSO.out.1)
              have HP := hid (HOK2.out.1.add (hardRec S.up.hard))
              have c0 := cell_in HK9.out 0 (.int .u64 S.up.hard.term) rfl
              have c1 := cell_in HK9.out 1 (.int .i64 S.up.hard.vote) rfl
              have c2' := cell_in HK9.out 2 (.int .u64 S.up.hard.life) rfl
              clear c2 f2
              go_wp2_with fail
              refine Calls.mono (hard_any S.up.hard HUO.out.1 ⟨HUO.out.2.1.1, by have := HUO.out.2.1.2; omega⟩ HUO.out.2.2.1 _) ?_
              rintro e w10 ⟨rfl, hb10⟩
              have HD10 := hid (HD9.out.below hb10)
              have HT10 := hid (HT9.out.trans (Turn.below (F := []) hb10) (by simp))
              have HK10 := hid (blk_below HK9.out hb10)
              have HR110 := hid (ownsRow_of_block HR19.out fun r hr => hb10.block r (HR19.out.lt r hr).2)
              have HR210 := hid (ownsRow_of_block HR29.out fun r hr => hb10.block r (HR29.out.lt r hr).2)
              have HZ10 : Hid (k8 < w10.heap.size) := hid (Array.getElem?_eq_some_iff.1 HK10.out).1
              have hrl := hardRec_len S.up.hard
              clear hb10 c0 c1 c2' HD9 HT9 HK9 HR19 HR29
              go_wp2_with fail
              refine Calls.mono (add_any HD10.out HOK2.out.1.1 (by have := HOK2.out.1.2; omega) _ (by omega)) ?_
              rintro e w11 ⟨rfl, ha⟩
              obtain ⟨F11, hd11, hf11, ht11⟩ := ha
              have HD11 := hid hd11
              have HF11 := hid hf11
              have HT11 := hid ht11
              clear hd11 hf11 ht11
              go_wp2_with fail
              refine Calls.mono (jsync_any HD11.out HP.out.1.1 HP.out.2) ?_
              rintro e w12 ⟨rfl, ha⟩
              have ha12 := After.trans HT11.out HF11.out ha
              have HA12 := hid (After.trans HT10.out HF5.out ha12)
              obtain ⟨F12, hd12, hf12, ht12⟩ := ha12
              have HNN : Hid (∀ r, (vc.ownBlock = some r ∨ vl.ownBlock = some r ∨ r = k8) → r ∉ F5 ∧ r < w10.heap.size) := fun r hr => by
                rcases hr with hr | hr | hr
                · exact ⟨fun hm => by have := HN5.out r hm; have := (HR110.out.lt r hr).1; omega, (HR110.out.lt r hr).2⟩
                · exact ⟨fun hm => by have := HN5.out r hm; have := (HR210.out.lt r hr).1; omega, (HR210.out.lt r hr).2⟩
                · subst hr; exact ⟨HK5.out, HZ10.out⟩
              have HN12 : Hid (∀ r, (vc.ownBlock = some r ∨ vl.ownBlock = some r ∨ r = k8) → r ∉ F12) := fun r hr hm => by
                have h1 := HNN.out r hr
                rcases hf12 r hm with h | h
                · exact h1.1 h
                · have := h1.2; omega
              have HK12 := hid ((ht12.block HZ10.out HK5.out).trans HK10.out)
              have HR112 := hid (ownsRow_of_block HR110.out fun r hr => ht12.block (HNN.out r (.inl hr)).2 (HNN.out r (.inl hr)).1)
              have HR212 := hid (ownsRow_of_block HR210.out fun r hr => ht12.block (HNN.out r (.inr (.inl hr))).2 (HNN.out r (.inr (.inl hr))).1)
              have HD12 := hid hd12
              have HF12 : Hid (∀ b ∈ F12, b ∈ F ∨ W.heap.size ≤ b) := fun b hb => by
                rcases hf12 b hb with h | h
                · exact HF5.out b h
                · have := HT10.out.size; exact .inr (by omega)
              have HT12 := hid (HT10.out.trans ht12 HF5.out)
              have HW12 : Hid (w10.heap.size ≤ w12.heap.size) := ht12.size
              have HW10 : Hid (W.heap.size ≤ w10.heap.size) := HT10.out.size
              clear ha hd12 hf12 ht12 HD11 HF11 HT11 HD10 HT10 HK10 HR110 HR210 HNN
              generalize hqq : Ds.sync' (d2.add (hardRec S.up.hard)) = q3 at *
              obtain ⟨d3, e4⟩ := q3
              simp only at HD12 HA12 ⊢
              by_cases he4 : e4 = 0
              · subst he4
                have HJ4 := hid (HJ3.out.trans (if_neg (by simp)))
                clear HJ3 HA12 hqq
                have hss := stCells_size S.up z vc vl
                go_wp2_with (refine wpList_load_row rfl 98 _ rfl k8 (by rfl) 98 (stCells S.up z _ _) (0, 0) _ HK12.out Tryz.underlying98 rfl sizeSt ?_)
                rw [box_jn]
                go_ret2
                show OpenPost W p F (jOpen d) _ _
                rw [HJ4.out]
                have hb : Below w12.heap.size w12 (w12.alloc (.cells (jnCells p S.up z vc vl) 107)) := (Below.refl _ _).alloc (Nat.le_refl _) _
                refine ⟨w12.heap.size, w12.heap.size :: (F12 ++ (ownL vc ++ ownL vl)), rfl, ⟨F12, z, vc, vl, heap_alloc_new w12 _, HD12.out.below hb, ?_, ?_, HUO.out, hz6, ?_, by simp, ?_, ?_, ?_, ?_, ?_⟩, ?_, ?_, ?_⟩
                · rw [up_log]; exact ownsRow_mono (HR112.out.alloc _) (Nat.zero_le _)
                · rw [up_log]; exact ownsRow_mono (HR212.out.alloc _) (Nat.zero_le _)
                · rw [up_log]; have := HSO.out.2; omega
                · intro hm; have := HD12.out.lt _ hm; omega
                · intro b hb; simp [hb]
                · intro r hr; exact ⟨by simp [mem_ownL.2 hr], HN12.out r (.inl hr)⟩
                · intro r hr; exact ⟨by simp [mem_ownL.2 hr], HN12.out r (.inr (.inl hr))⟩
                · intro b hb
                  rw [World.size_alloc]
                  simp only [List.mem_cons, List.mem_append] at hb
                  rcases hb with rfl | hb | hb | hb
                  · omega
                  · have := HD12.out.lt b hb; omega
                  · have := (HR112.out.lt b (mem_ownL.1 hb)).2; omega
                  · have := (HR212.out.lt b (mem_ownL.1 hb)).2; omega
                · intro b hb
                  have h1 := HW12.out
                  have h2 := HW10.out
                  have h3 := HWS.out
                  simp only [List.mem_cons, List.mem_append] at hb
                  rcases hb with rfl | hb | hb | hb
                  · exact .inr (by omega)
                  · exact HF12.out b hb
                  · have := (HR112.out.lt b (mem_ownL.1 hb)).1; exact .inr (by omega)
                  · have := (HR212.out.lt b (mem_ownL.1 hb)).1; exact .inr (by omega)
                · exact HT12.out.trans (Turn.below (F := []) hb) (by simp)
                · have h1 := HW12.out
                  have h2 := HW10.out
                  omega
              · have HJ4 := hid (HJ3.out.trans (if_pos he4))
                have h1 : ((e4 : Int) != 0) = true := by simp only [bne_iff_ne, ne_eq]; omega
                have h2 : ¬ ((e4 : Int) = 0) := by omega
                clear he4 HJ3 hqq
                go_wp2_with fail
                go_ret2
                rw [HJ4.out]
                exact ⟨rfl, HA12.out⟩
        · have HJ2 := hid (HJ1.out.trans (if_pos he3))
          have h1 : ((e3 : Int) != 0) = true := by simp only [bne_iff_ne, ne_eq]; omega
          have h2 : ¬ ((e3 : Int) = 0) := by omega
          clear he3 HJ1
          go_wp2_with fail
          go_ret2
          rw [HJ2.out]
          exact ⟨rfl, HA5.out⟩
    · have HJ1 := hid (HJ.out.trans (if_pos he1))
      have h1 : ((e1 : Int) != 0) = true := by simp only [bne_iff_ne, ne_eq]; omega
      have h2 : ¬ ((e1 : Int) = 0) := by omega
      clear he1 HJ
      go_wp2_with fail
      go_ret2
      rw [HJ1.out]
      exact ⟨rfl, HA.out⟩
end Go.Proofs.YtmehcogaopackaaGreat
