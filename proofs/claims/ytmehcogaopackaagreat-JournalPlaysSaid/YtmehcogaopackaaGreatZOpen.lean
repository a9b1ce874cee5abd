/-
  The walk of the reference's Open.
-/
import Derived.Test.YtmehcogaopackaaGreatZFound
import Derived.Test.YtmehcogaopackaaGreatZRebase
import Derived.Deep.Cut
import Derived.Deep.CutRange
namespace Go.Proofs.YtmehcogaopackaaGreat
open Go.RowKit
set_option linter.unusedVariables false
set_option linter.unusedSimpArgs false
/-- how Open ends -/
def ROpenPost (G : List Nat) (W : World) (p : Nat) (r : Ds × Option Js × Nat) (e : Ending) (W' : World) : Prop :=
  match r.2.1 with
  | none => e = .returned (.tuple #[.pointer none, .int .i64 (r.2.2 : Nat)]) ∧ RdAt G W' p r.1 ∧ Turn [p] W W'
  | some S => ∃ j, e = .returned (.tuple #[.pointer (some ⟨j, 0, none⟩), .int .i64 0]) ∧ RjAt G W' j p r.1 S ∧ Turn [p] W W' ∧ W.heap.size ≤ j
theorem ROpenPost.no {G : List Nat} {W W' : World} {p : Nat} {r : Ds × Option Js × Nat} {d : Ds} {n : Nat} (h : r = (d, none, n)) (h1 : RdAt G W' p d) (h2 : Turn [p] W W') : ROpenPost G W p r (.returned (.tuple #[.pointer none, .int .i64 (n : Nat)])) W' := by
  subst h
  exact ⟨rfl, h1, h2⟩
theorem ROpenPost.yes {G : List Nat} {W W' : World} {p j : Nat} {r : Ds × Option Js × Nat} {d : Ds} {S : Js} {n : Nat} (h : r = (d, some S, n)) (h1 : RjAt G W' j p d S) (h2 : Turn [p] W W') (h3 : W.heap.size ≤ j) : ROpenPost G W p r (.returned (.tuple #[.pointer (some ⟨j, 0, none⟩), .int .i64 0])) W' := by
  subst h
  exact ⟨j, rfl, h1, h2, h3⟩
theorem box_rj (p : Nat) (S : Js) (vc vl : Value) : Array.foldl (fun cs x => cs.setIfInBounds (1 + x.snd) x.fst) #[Value.pointer (some ⟨p, 0, none⟩), Value.int IntKind.u64 0, Value.int IntKind.i64 0, Value.int IntKind.u64 0, Value.int IntKind.u64 0, Value.int IntKind.u64 0, Value.slice none 0 0, Value.slice none 0 0, Value.string { data := #[] }]
          (toldCells S vc vl).zipIdx 0 8 = rjCells p S vc vl := by
  simp [toldCells, rjCells]
theorem rfile_zero (w : World) : Calls Tryz.prog 50 #[.agg #[.int .u64 0, .int .i64 0, .int .u64 0, .int .u64 0, .int .u64 0, .slice none 0 0, .slice none 0 0, .string { data := #[] }]] w fun e w' => e = .returned (.string (str (fileB Js.zero))) ∧ Below w.heap.size w w' :=
  rfile_js JsOk.zero (by decide) (.slice none 0 0) (.slice none 0 0) w (Cells.of_row (World.ownsRow_nil w 0 3 1) [] (by simp)) (Cells.of_row (World.ownsRow_nil w 0 116 3) [] (by simp))
theorem built_rj (p : Nat) (S : Js) (vc vl : Value) : Tryz.prog.built 54 [(0, .pointer (some ⟨p, 0, none⟩)), (1, .agg (toldCells S vc vl))] = some (rjCells p S vc vl) := by
  kernel_rfl
theorem wpList_built {P : Program} {ops : Array Oper} {rest : List Oper} {o : Oper} {a : Act} {w : World} {Q : Exit → Act → World → Prop} (hg : o.guard = none) (t : TypeId) (parts : Array (Nat × Operand)) (ho : o.op = .build t parts) (cells : Array Value)
    (l : List (Nat × Value)) (hl : (parts.map fun (i, x) => (i, a.eval x)).toList = l) (hb : P.built t l = some cells) (h : wpList P ops Q rest (a.put o.dst (.agg cells)) w) : wpList P ops Q (o :: rest) a w := by
  subst hl
  exact wpList_build hg t parts ho (by rw [hb]; rfl) (by rw [hb]; exact h)
theorem keeps2 {W W' : World} {p k B : Nat} {S : Js} {vc vl : Value} {cs : Array Value} (h1 : W.ownsRow B 3 1 vc S.log.conf.length (intVals S.log.conf)) (h2 : W.ownsRow B 116 3 vl S.log.l.length (enVals S.log.l)) (hk : W.heap[k]? = some (.cells cs 51)) (hp : p < B) (t : Turn [p, k] W W') :
    W'.ownsRow B 3 1 vc S.log.conf.length (intVals S.log.conf) ∧ W'.ownsRow B 116 3 vl S.log.l.length (enVals S.log.l) := by
  constructor
  · refine ownsRow_of_block h1 fun r hr => t.block (h1.lt r hr).2 ?_
    have n1 := own_ne h1 hk (fun cur e => by cases e)
    have n2 := (h1.lt r hr).1
    simp only [List.mem_cons, List.not_mem_nil, or_false, not_or]
    exact ⟨by omega, fun e => n1 (by rw [hr, e])⟩
  · refine ownsRow_of_block h2 fun r hr => t.block (h2.lt r hr).2 ?_
    have n1 := own_ne h2 hk (fun cur e => by cases e)
    have n2 := (h2.lt r hr).1
    simp only [List.mem_cons, List.not_mem_nil, or_false, not_or]
    exact ⟨by omega, fun e => n1 (by rw [hr, e])⟩
/-- a journal that was made: in a new block, its parts as Open leaves them -/
theorem rj_made {G : List Nat} {W w : World} {p k : Nat} {d : Ds} {S : Js} {vc vl : Value} (hd : RdAt (k :: G) w p d) (hG : ∀ b ∈ G, b < W.heap.size) (hp : p < W.heap.size) (hW : W.heap.size ≤ w.heap.size) (h1 : w.ownsRow W.heap.size 3 1 vc S.log.conf.length (intVals S.log.conf)) (h2 : w.ownsRow W.heap.size 116 3 vl S.log.l.length (enVals S.log.l)) (hok : JsOk S) (hl : S.log.l.length ≤ 1000000) :
    RjAt G (w.alloc (.cells (rjCells p S vc vl) 54)) w.heap.size p d S := by
  have hb : Below w.heap.size w (w.alloc (.cells (rjCells p S vc vl) 54)) := (Below.refl _ _).alloc (Nat.le_refl _) _
  have e1 : ∀ b ∈ w.heap.size :: p :: G, b ∈ p :: G ∨ w.heap.size ≤ b := fun b hb => by
    rcases List.mem_cons.1 hb with rfl | hb
    · exact .inr (Nat.le_refl _)
    · exact .inl hb
  have e2 : ∀ b ∈ p :: G, b < W.heap.size := fun b hb => by
    rcases List.mem_cons.1 hb with rfl | hb
    · exact hp
    · exact hG b hb
  refine ⟨vc, vl, heap_alloc_new w _, (hd.sub (fun b hb => List.mem_cons_of_mem _ hb)).besides (Turn.below hb) (fun b hb => ?_), (Cells.of_row h1 _ e2).besides (Turn.below hb) e1, (Cells.of_row h2 _ e2).besides (Turn.below hb) e1, hok, hl, fun hm => ?_, ?_⟩
  · rcases List.mem_cons.1 hb with rfl | hb
    · exact .inr (Nat.le_refl _)
    · exact .inl hb
  · have := hG _ hm
    omega
  · omega
set_option maxRecDepth 100000 in
set_option maxHeartbeats 40000000 in
theorem ropen_any {G : List Nat} {W : World} {p : Nat} {d : Ds} (h : RdAt G W p d) {n : Nat} (hok : d.Ok n) (hn : n ≤ 800000) (hG : ∀ b ∈ G, b < W.heap.size) :
    Calls Tryz.prog 13 #[.pointer (some ⟨p, 0, none⟩)] W fun e W' => ROpenPost G W p (jOpen d) e W' := by
  have HR := hid (rread_any h)
  have H := hid h
  have HGW := hid hG
  have HPW : Hid (p < W.heap.size) := hid h.lt
  have HPG : Hid (p ∉ G) := hid (by obtain ⟨_, _, _, _, _, _, _, h⟩ := h; exact h)
  clear h hG
  go_enter Tryz.func13, Tryz.ntmps13
  go_upto_if 15 with (go_at_call 49; refine Calls.mono HR.out ?_; rintro e w' ⟨rfl, rfl⟩)
  go_cut [4, 5] from 9 (fun s4 s5 wc => s4 = .string (str (jOpen1 d).1) ∧ s5 = .int .i64 ((jOpen1 d).2.2 : Nat) ∧ RdAt G wc p (jOpen1 d).2.1 ∧ Turn [p] W wc)
  case first =>
    by_cases h6 : d.read.2 = 6
    · have H1 := hid (show jOpen1 d = (fileB Js.zero, Ds.sync' (d.puts (fileB Js.zero))) from if_pos h6)
      rw [h6]
      go_wp2_with fail
      refine Calls.mono (rfile_zero _) ?_
      rintro e w1 ⟨rfl, hb1⟩
      have HP1 := hid (rput_any (H.out.below hb1) hok (by omega) (fun b hb => Nat.lt_of_lt_of_le (HGW.out b hb) hb1.size) (fileB Js.zero) (by have := fileZero_len; omega))
      have HT1 : Hid (Turn [p] W w1) := hid (Turn.below hb1)
      clear hb1
      go_wp2_with fail
      refine Calls.mono HP1.out ?_
      rintro e w2 ⟨rfl, hd2, ht2⟩
      have HD2 := hid hd2
      have HT2 := hid (HT1.out.trans ht2 (fun b hb => .inl hb))
      clear hd2 ht2
      go_wp2_with fail
      go_meet
      case rel =>
        rw [H1.out]
        exact ⟨rfl, rfl, HD2.out, HT2.out⟩
    · have H1 := hid (show jOpen1 d = (d.read.1, (d, d.read.2)) from if_neg h6)
      have h6' : ((d.read.2 : Int) == 6) = false := by simp only [beq_eq_false_iff_ne, ne_eq]; omega
      have h6'' : ¬ ((d.read.2 : Int) = 6) := by omega
      go_wp2_with fail
      go_meet
      case rel =>
        rw [H1.out]
        exact ⟨rfl, rfl, H.out, Turn.refl _ _⟩
  case rest =>
    obtain ⟨rfl, rfl, hd1, ht1⟩ := hcut
    have HD1 := hid hd1
    have HT1 := hid ht1
    have HO1 := hid (jOpen1_ok hok)
    have HJ := hid (show jOpen d = if (jOpen1 d).2.2 ≠ 0 then ((jOpen1 d).2.1, none, (jOpen1 d).2.2) else
      if (jOpen2 (jOpen1 d).2.1 (jOpen1 d).1).2 ≠ 0 then ((jOpen2 (jOpen1 d).2.1 (jOpen1 d).1).1, none, (jOpen2 (jOpen1 d).2.1 (jOpen1 d).1).2) else
      jOpen3 (jOpen2 (jOpen1 d).2.1 (jOpen1 d).1).1 (allOf (jOpen1 d).1).1 from rfl)
    clear hd1 ht1 HR H
    obtain ⟨s, d1, e1, hq1⟩ : ∃ s d1 e1, jOpen1 d = (s, (d1, e1)) := ⟨_, _, _, rfl⟩
    rw [hq1] at HJ HD1 HO1 ⊢
    simp only at HJ HD1 HO1 ⊢
    clear hq1 hok
    by_cases he1 : e1 = 0
    · subst he1
      have HJ1 := hid (HJ.out.trans (if_neg (by simp)))
      clear HJ
      have hsl : s.length ≤ 1048576 := HO1.out.2.2
      have hsz : (str s).size = s.length := str_size _
      have HFD := hid (rfound_any s hsl wc)
      have HER := hid (allOf_err s)
      have H2O := hid (show jOpen2 d1 s = if (allOf s).2.2 = 3 then Ds.sync' (d1.puts (s.take (allOf s).2.1)) else (d1, (allOf s).2.2) from rfl)
      have HOK2 := hid (jOpen2_ok HO1.out.1 s)
      have HWC := hid HT1.out.size
      have HN := hid hn
      clear hn
      go_wp2_with fail
      refine Calls.mono HFD.out ?_
      rintro e w2 ⟨cs, kept, f, rfl, hc8, hc1, hb2, hcase⟩
      have HCASE := hid hcase
      have hk2 := heap_alloc_new w2 (.cells #[.int .u64 0, .int .i64 0, .int .u64 0, .int .u64 0, .int .u64 0, .slice none 0 0, .slice none 0 0, .string { data := #[] }] 51)
      have hbk : Below w2.heap.size w2 ((w2.alloc (.cells #[.int .u64 0, .int .i64 0, .int .u64 0, .int .u64 0, .int .u64 0, .slice none 0 0, .slice none 0 0, .string { data := #[] }] 51)).setRow w2.heap.size cs) := below_row ((Below.refl _ _).alloc (Nat.le_refl _) _) (Nat.le_refl _) cs
      have HK4 := hid (setRow_heap (w2.alloc (.cells #[.int .u64 0, .int .i64 0, .int .u64 0, .int .u64 0, .int .u64 0, .slice none 0 0, .slice none 0 0, .string { data := #[] }] 51)) w2.heap.size _ cs _ (0, 0) hk2)
      have HD4 : Hid (RdAt (w2.heap.size :: G) ((w2.alloc (.cells #[.int .u64 0, .int .i64 0, .int .u64 0, .int .u64 0, .int .u64 0, .slice none 0 0, .slice none 0 0, .string { data := #[] }] 51)).setRow w2.heap.size cs) p d1) := hid ((HD1.out.below hb2).besides (Turn.below hbk) (fun b hb => by
        rcases List.mem_cons.1 hb with rfl | hb
        · exact .inr (Nat.le_refl _)
        · exact .inl hb))
      have HT4 : Hid (Turn [p] W ((w2.alloc (.cells #[.int .u64 0, .int .i64 0, .int .u64 0, .int .u64 0, .int .u64 0, .slice none 0 0, .slice none 0 0, .string { data := #[] }] 51)).setRow w2.heap.size cs)) := hid ((HT1.out.trans (Turn.below (F := [p]) hb2) (fun b hb => .inl hb)).trans (Turn.below (F := [p]) hbk) (fun b hb => .inl hb))
      have HKW : Hid (W.heap.size ≤ w2.heap.size) := hid (Nat.le_trans HWC.out hb2.size)
      have HRK : Hid (∀ B e sz v m xs, w2.ownsRow B e sz v m xs → ((w2.alloc (.cells #[.int .u64 0, .int .i64 0, .int .u64 0, .int .u64 0, .int .u64 0, .slice none 0 0, .slice none 0 0, .string { data := #[] }] 51)).setRow w2.heap.size cs).ownsRow B e sz v m xs) := hid (fun B e sz v m xs h => ownsRow_of_block h fun r hr => hbk.block r (h.lt r hr).2)
      clear hcase hb2 HFD hbk HD1 HT1
      go_upto_region 8 with (refine wpList_store_row rfl 51 _ _ rfl w2.heap.size cs (by rfl) (by rfl) 51 _ hk2 (by rw [hc8]; exact sizeTold) (by rw [hc8]; rfl) hc1 ?_)
      clear hk2
      generalize (w2.alloc (.cells #[.int .u64 0, .int .i64 0, .int .u64 0, .int .u64 0, .int .u64 0, .slice none 0 0, .slice none 0 0, .string { data := #[] }] 51)).setRow w2.heap.size cs = w4 at *
      generalize w2.heap.size = k at HK4 HD4 HKW ⊢
      rcases HCASE.out with ⟨q0, q3, rfl, rfl⟩ | ⟨q03, rfl, hrd, rfl⟩ | ⟨q03, rfl, rfl, S, vc, vl, hrd, hcs, hr1, hr2⟩
      · as_aux_lemma =>
        have HJ2 := hid (HJ1.out.trans (show _ = (d1, none, (allOf s).2.2) by rw [H2O.out, if_neg q3]; exact if_pos q0))
        have q4 := HER.out.1
        have HD5 := hid (HD4.out.sub (G' := G) (fun b hb => List.mem_cons_of_mem _ hb))
        clear HJ1 H2O HOK2 HCASE HER
        generalize (allOf s).2.2 = f at *
        have i1 : ((f : Int) != 0) = true := by simp only [bne_iff_ne, ne_eq]; omega
        have i2 : ¬ ((f : Int) = 0) := by omega
        have i3 : ((f : Int) != 4) = true := by simp only [bne_iff_ne, ne_eq]; omega
        have i4 : ¬ ((f : Int) = 4) := by omega
        clear q0 q3 q4
        go_wp2_with fail
        go_ret2
        exact ROpenPost.no HJ2.out HD5.out HT4.out
      · as_aux_lemma =>
        have HRN := hid (show ∀ d2, jOpen3 d2 (allOf s).1 = (d2, none, 4) from fun d2 => by unfold jOpen3; rw [hrd])
        clear hrd HCASE HRK
        have hkl := HER.out.2.1
        have hkz : (str (s.take (allOf s).2.1)).size = (allOf s).2.1 := by rw [str_size, List.length_take]; omega
        by_cases q3 : (allOf s).2.2 = 3
        · have hlt : ((allOf s).2.1 : Int) < (s.length : Int) := by have := HER.out.2.2; omega
          have HP4 := hid (rput_any HD4.out HO1.out.1 (by have := HN.out; omega) (fun b hb => by
            have h1 := (Array.getElem?_eq_some_iff.1 HK4.out).1
            have h2 := HT4.out.size
            rcases List.mem_cons.1 hb with rfl | hb
            · exact h1
            · have := HGW.out b hb; omega) (s.take (allOf s).2.1) (by rw [List.length_take]; omega))
          have HQ := hid (H2O.out.trans (if_pos q3))
          rw [HQ.out] at HJ1 HOK2
          clear HQ H2O q3 q03 HER
          generalize Ds.sync' (d1.puts (s.take (allOf s).2.1)) = q4 at *
          obtain ⟨d5, e4⟩ := q4
          simp only at HJ1 HP4 HOK2
          generalize hnn : (allOf s).2.1 = nn at *
          clear hnn
          go_wp2_with fail
          refine Calls.mono HP4.out ?_
          rintro e w5 ⟨rfl, hd5, ht5⟩
          have HD5 := hid hd5
          have HT5 := hid (HT4.out.trans ht5 (fun b hb => .inl hb))
          clear hd5 HP4 HD4 HT4
          by_cases he4 : e4 = 0
          · subst he4
            have HJ2 := hid (HJ1.out.trans ((if_neg (by simp)).trans (HRN.out _)))
            have HD6 := hid (HD5.out.sub (G' := G) (fun b hb => List.mem_cons_of_mem _ hb))
            clear HJ1 HRN HD5
            go_wp2_with fail
            go_ret2
            exact ROpenPost.no HJ2.out HD6.out HT5.out
          · have HJ2 := hid (HJ1.out.trans (if_pos he4))
            have HD6 := hid (HD5.out.sub (G' := G) (fun b hb => List.mem_cons_of_mem _ hb))
            have i1 : ((e4 : Int) != 0) = true := by simp only [bne_iff_ne, ne_eq]; omega
            have i2 : ¬ ((e4 : Int) = 0) := by omega
            clear HJ1 HRN HD5 he4
            go_wp2_with fail
            go_ret2
            exact ROpenPost.no HJ2.out HD6.out HT5.out
        · have hlt : ¬ (((allOf s).2.1 : Int) < (s.length : Int)) := by have := HER.out.2.2; omega
          have HJ2 := hid (HJ1.out.trans (show _ = (d1, none, 4) by rw [H2O.out, if_neg q3, show (allOf s).2.2 = 0 by omega]; exact (if_neg (by simp)).trans (HRN.out _)))
          have HD6 := hid (HD4.out.sub (G' := G) (fun b hb => List.mem_cons_of_mem _ hb))
          clear HJ1 H2O HOK2 HER HRN HD4 q3 q03
          generalize hnn : (allOf s).2.1 = nn at *
          clear hnn
          go_wp2_with fail
          go_ret2
          exact ROpenPost.no HJ2.out HD6.out HT4.out
      · as_aux_lemma =>
        subst hcs
        have HRN := hid (show ∀ d2, jOpen3 d2 (allOf s).1 = if (Ds.sync' (d2.add (hardRec S.up.hard))).2 ≠ 0 then ((Ds.sync' (d2.add (hardRec S.up.hard))).1, none, (Ds.sync' (d2.add (hardRec S.up.hard))).2) else ((Ds.sync' (d2.add (hardRec S.up.hard))).1, some S.up, 0) from fun d2 => by unfold jOpen3; rw [hrd])
        have HSO := hid (rd_ok hrd)
        have HSN : Hid ((allOf s).1.length ≤ 900000) := hid (by have := allOf_count s; have := bodies_len s; omega)
        have HR1 := hid (ownsRow_mono (HRK.out _ _ _ _ _ _ hr1) HWC.out)
        have HR2 := hid (ownsRow_mono (HRK.out _ _ _ _ _ _ hr2) HWC.out)
        clear hrd HCASE HRK hr1 hr2
        have hkl := HER.out.2.1
        have hkz : (str (s.take (allOf s).2.1)).size = (allOf s).2.1 := by rw [str_size, List.length_take]; omega
        by_cases q3 : (allOf s).2.2 = 3
        · as_aux_lemma =>
          have hlt : ((allOf s).2.1 : Int) < (s.length : Int) := by have := HER.out.2.2; omega
          have HP4 := hid (rput_any HD4.out HO1.out.1 (by have := HN.out; omega) (fun b hb => by
            have h1 := (Array.getElem?_eq_some_iff.1 HK4.out).1
            have h2 := HT4.out.size
            rcases List.mem_cons.1 hb with rfl | hb
            · exact h1
            · have := HGW.out b hb; omega) (s.take (allOf s).2.1) (by rw [List.length_take]; omega))
          have HQ := hid (H2O.out.trans (if_pos q3))
          rw [HQ.out] at HJ1 HOK2
          clear HQ H2O q3 q03 HER
          generalize Ds.sync' (d1.puts (s.take (allOf s).2.1)) = q4 at *
          obtain ⟨d5, e4⟩ := q4
          simp only at HJ1 HP4 HOK2
          generalize hnn : (allOf s).2.1 = nn at *
          clear hnn
          go_wp2_with fail
          refine Calls.mono HP4.out ?_
          rintro e w5 ⟨rfl, hd5, ht5⟩
          have HD5 := hid hd5
          have HT5 := hid (HT4.out.trans ht5 (fun b hb => .inl hb))
          clear hd5 HP4 HD4 HT4
          by_cases he4 : e4 = 0
          · subst he4
            have HJ2 := hid (HJ1.out.trans ((if_neg (by simp)).trans (HRN.out _)))
            have HK5 := hid ((ht5.block (Array.getElem?_eq_some_iff.1 HK4.out).1 (by have := HPW.out; have := HKW.out; simp only [List.mem_singleton]; omega)).trans HK4.out)
            have HRR := hid (keeps2 HR1.out HR2.out HK4.out HPW.out (ht5.mono (by simp)))
            have HR15 := hid HRR.out.1
            have HR25 := hid HRR.out.2
            have HOK5 : Hid (d5.Ok (n + 1 + 1)) := hid HOK2.out.1
            have HN5 : Hid (n + 1 + 1 ≤ 900000) := hid (by have := HN.out; omega)
            clear HJ1 HRN HR1 HR2 HRR HK4 ht5
            have c2 : w5.cell? ⟨k, 2, none⟩ = some (.int .u64 S.hard.life) := cell_in HK5.out 2 _ rfl
            have f2 := free_in HK5.out 2
            go_upto_if 54 with fail
            go_cut [] from 9 (fun w9 => w9.heap[k]? = some (.cells (toldCells S.up vc vl) 51) ∧ Turn [k] w5 w9)
            case first =>
              by_cases hl : S.hard.life < 9223372036854775807
              · have HU := hid (show S.up = ⟨⟨S.hard.term, S.hard.vote, S.hard.life + 1⟩, S.log, S.image⟩ from if_pos hl)
                have hli : (S.hard.life : Int) < 9223372036854775807 := by omega
                have hwl : IntKind.u64.wrap ((S.hard.life : Int) + 1) = ((S.hard.life + 1 : Nat) : Int) := by rw [IntKind.wrap_u64]; omega
                rw [show decide ((S.hard.life : Int) < 9223372036854775807) = true from decide_eq_true hli]
                go_wp2_with fail
                go_meet
                case rel =>
                  rw [HU.out]
                  exact ⟨heap_set HK5.out 2 _, Turn.set _ _ _ _ (by simp)⟩
              · have HU := hid (show S.up = S from if_neg hl)
                have hli : ¬ ((S.hard.life : Int) < 9223372036854775807) := by omega
                rw [show decide ((S.hard.life : Int) < 9223372036854775807) = false from decide_eq_false hli]
                go_wp2_with fail
                go_meet
                case rel =>
                  rw [HU.out]
                  exact ⟨HK5.out, Turn.refl _ _⟩
            case rest =>
            obtain ⟨hk9, ht9⟩ := hcut
            obtain ⟨w9, hw9⟩ : ∃ x : World, x = wc := ⟨_, rfl⟩
            subst hw9
            have HK9 := hid hk9
            have HD9 := hid (HD5.out.besides (ht9.mono (G := k :: G) (by simp)) (fun b hb => .inl hb))
            have HRR9 := hid (keeps2 HR15.out HR25.out HK5.out HPW.out (ht9.mono (by simp)))
            have HT9 := hid (HT5.out.trans (ht9) (fun b hb => .inr (by rw [List.mem_singleton.1 hb]; have := HKW.out; omega)))
            have HUO := hid (JsOk.up HSO.out.1)
            have HUL : Hid (S.up.log = S.log) := hid (up_log S)
            clear c2 f2 hk9 ht9 HR15 HR25 HD5 HT5 HK5
            have c0 := cell_in HK9.out 0 (.int .u64 S.up.hard.term) rfl
            have c1 := cell_in HK9.out 1 (.int .i64 S.up.hard.vote) rfl
            have c2' := cell_in HK9.out 2 (.int .u64 S.up.hard.life) rfl
            go_wp2_with fail
            refine Calls.mono (rhard_any S.up.hard HUO.out.1 ⟨HUO.out.2.1.1, by have := HUO.out.2.1.2; omega⟩ HUO.out.2.2.1 _) ?_
            rintro e w10 ⟨rfl, hb10⟩
            have HK10 := hid (blk_below HK9.out hb10)
            have HRR10 := hid (keeps2 HRR9.out.1 HRR9.out.2 HK9.out HPW.out (Turn.below hb10))
            have HT10 := hid (HT9.out.trans (Turn.below (F := [p]) hb10) (fun b hb => .inl hb))
            have HP10 := hid (rputa_any (HD9.out.below hb10) HOK5.out HN5.out (fun b hb => by
              have h1 := (Array.getElem?_eq_some_iff.1 HK10.out).1
              have h2 := HT10.out.size
              rcases List.mem_cons.1 hb with rfl | hb
              · exact h1
              · have := HGW.out b hb; omega) (hardRec S.up.hard) (by have := hardRec_len S.up.hard; omega) (hardRec_ne _))
            clear hb10 c0 c1 c2' HD9 HT9 HK9 HRR9
            go_wp2_with fail
            refine Calls.mono HP10.out ?_
            rintro e w12 ⟨rfl, hd12, ht12⟩
            have HD12 := hid hd12
            have HT12 := hid (HT10.out.trans ht12 (fun b hb => .inl hb))
            have HK12 := hid ((ht12.block (Array.getElem?_eq_some_iff.1 HK10.out).1 (by have := HPW.out; have := HKW.out; simp only [List.mem_singleton]; omega)).trans HK10.out)
            have HRR12 := hid (keeps2 HRR10.out.1 HRR10.out.2 HK10.out HPW.out (ht12.mono (by simp)))
            clear hd12 ht12 HK10 HRR10 HP10
            generalize hqq : Ds.sync' (d5.add (hardRec S.up.hard)) = q3 at *
            obtain ⟨d3, e5⟩ := q3
            simp only at HJ2 HD12
            by_cases he5 : e5 = 0
            · subst he5
              have HJ4 := hid (HJ2.out.trans (if_neg (by simp)))
              clear HJ2 hqq
              have HRJ := hid (rj_made (S := S.up) (vc := vc) (vl := vl) HD12.out HGW.out HPW.out HT12.out.size (by rw [HUL.out]; exact HRR12.out.1) (by rw [HUL.out]; exact HRR12.out.2) HUO.out (by rw [HUL.out]; have := HSO.out.2; have := HSN.out; omega))
              have HT13 : Hid (Turn [p] W (w12.alloc (.cells (rjCells p S.up vc vl) 54))) := hid (HT12.out.trans (Turn.alloc (F := [p]) _ _) (fun b hb => .inl hb))
              have HSZ := hid HT12.out.size
              go_upto_region 21 with fail
              as_aux_lemma =>
              go_wp2_with (first
                | (refine wpList_load_row rfl 51 _ rfl k (by rfl) 51 (toldCells S.up vc vl) (0, 0) _ HK12.out Tryz.underlying51 rfl sizeTold ?_)
                | (refine wpList_built rfl 54 #[(0, .tmp 69), (1, .tmp 70)] rfl (rjCells p S.up vc vl) [(0, .pointer (some ⟨p, 0, none⟩)), (1, .agg (toldCells S.up vc vl))] (by simp [Act.eval]; exact ⟨rfl, rfl⟩) (built_rj p S.up vc vl) ?_))
              go_ret2
              exact ROpenPost.yes HJ4.out HRJ.out HT13.out HSZ.out
            · have HJ4 := hid (HJ2.out.trans (if_pos he5))
              have HD13 := hid (HD12.out.sub (G' := G) (fun b hb => List.mem_cons_of_mem _ hb))
              have i1 : ((e5 : Int) != 0) = true := by simp only [bne_iff_ne, ne_eq]; omega
              have i2 : ¬ ((e5 : Int) = 0) := by omega
              clear he5 HJ2 hqq HD12
              go_wp2_with fail
              go_ret2
              exact ROpenPost.no HJ4.out HD13.out HT12.out
          · have HJ2 := hid (HJ1.out.trans (if_pos he4))
            have HD6 := hid (HD5.out.sub (G' := G) (fun b hb => List.mem_cons_of_mem _ hb))
            have i1 : ((e4 : Int) != 0) = true := by simp only [bne_iff_ne, ne_eq]; omega
            have i2 : ¬ ((e4 : Int) = 0) := by omega
            clear HJ1 HRN HD5 he4
            go_wp2_with fail
            go_ret2
            exact ROpenPost.no HJ2.out HD6.out HT5.out
        · as_aux_lemma =>
          have hlt : ¬ (((allOf s).2.1 : Int) < (s.length : Int)) := by have := HER.out.2.2; omega
          have HQ2 := hid (show jOpen2 d1 s = (d1, 0) by rw [H2O.out, if_neg q3, show (allOf s).2.2 = 0 by omega])
          rw [HQ2.out] at HJ1
          have HJ2 := hid (HJ1.out.trans ((if_neg (by simp)).trans (HRN.out _)))
          clear HQ2
          have HD5 := HD4
          have HT5 := HT4
          have HK5 := HK4
          have HR15 := HR1
          have HR25 := HR2
          obtain ⟨w5, hw5⟩ : ∃ x : World, x = w4 := ⟨_, rfl⟩
          subst hw5
          obtain ⟨d5, hd5⟩ : ∃ x : Ds, x = d1 := ⟨_, rfl⟩
          subst hd5
          have HOK5 := hid HO1.out.1
          have HN5 : Hid (n + 1 ≤ 900000) := hid (by have := HN.out; omega)
          clear HJ1 H2O HOK2 HRN HD4 q3 q03 HT4 HK4 HR1 HR2 HER HO1
          generalize hnn : (allOf s).2.1 = nn at *
          clear hnn
          have c2 : w5.cell? ⟨k, 2, none⟩ = some (.int .u64 S.hard.life) := cell_in HK5.out 2 _ rfl
          have f2 := free_in HK5.out 2
          go_upto_if 54 with fail
          go_cut [] from 9 (fun w9 => w9.heap[k]? = some (.cells (toldCells S.up vc vl) 51) ∧ Turn [k] w5 w9)
          case first =>
            by_cases hl : S.hard.life < 9223372036854775807
            · have HU := hid (show S.up = ⟨⟨S.hard.term, S.hard.vote, S.hard.life + 1⟩, S.log, S.image⟩ from if_pos hl)
              have hli : (S.hard.life : Int) < 9223372036854775807 := by omega
              have hwl : IntKind.u64.wrap ((S.hard.life : Int) + 1) = ((S.hard.life + 1 : Nat) : Int) := by rw [IntKind.wrap_u64]; omega
              rw [show decide ((S.hard.life : Int) < 9223372036854775807) = true from decide_eq_true hli]
              go_wp2_with fail
              go_meet
              case rel =>
                rw [HU.out]
                exact ⟨heap_set HK5.out 2 _, Turn.set _ _ _ _ (by simp)⟩
            · have HU := hid (show S.up = S from if_neg hl)
              have hli : ¬ ((S.hard.life : Int) < 9223372036854775807) := by omega
              rw [show decide ((S.hard.life : Int) < 9223372036854775807) = false from decide_eq_false hli]
              go_wp2_with fail
              go_meet
              case rel =>
                rw [HU.out]
                exact ⟨HK5.out, Turn.refl _ _⟩
          case rest =>
          obtain ⟨hk9, ht9⟩ := hcut
          obtain ⟨w9, hw9⟩ : ∃ x : World, x = wc := ⟨_, rfl⟩
          subst hw9
          have HK9 := hid hk9
          have HD9 := hid (HD5.out.besides (ht9.mono (G := k :: G) (by simp)) (fun b hb => .inl hb))
          have HRR9 := hid (keeps2 HR15.out HR25.out HK5.out HPW.out (ht9.mono (by simp)))
          have HT9 := hid (HT5.out.trans (ht9) (fun b hb => .inr (by rw [List.mem_singleton.1 hb]; have := HKW.out; omega)))
          have HUO := hid (JsOk.up HSO.out.1)
          have HUL : Hid (S.up.log = S.log) := hid (up_log S)
          clear c2 f2 hk9 ht9 HR15 HR25 HD5 HT5 HK5
          have c0 := cell_in HK9.out 0 (.int .u64 S.up.hard.term) rfl
          have c1 := cell_in HK9.out 1 (.int .i64 S.up.hard.vote) rfl
          have c2' := cell_in HK9.out 2 (.int .u64 S.up.hard.life) rfl
          go_wp2_with fail
          refine Calls.mono (rhard_any S.up.hard HUO.out.1 ⟨HUO.out.2.1.1, by have := HUO.out.2.1.2; omega⟩ HUO.out.2.2.1 _) ?_
          rintro e w10 ⟨rfl, hb10⟩
          have HK10 := hid (blk_below HK9.out hb10)
          have HRR10 := hid (keeps2 HRR9.out.1 HRR9.out.2 HK9.out HPW.out (Turn.below hb10))
          have HT10 := hid (HT9.out.trans (Turn.below (F := [p]) hb10) (fun b hb => .inl hb))
          have HP10 := hid (rputa_any (HD9.out.below hb10) HOK5.out HN5.out (fun b hb => by
            have h1 := (Array.getElem?_eq_some_iff.1 HK10.out).1
            have h2 := HT10.out.size
            rcases List.mem_cons.1 hb with rfl | hb
            · exact h1
            · have := HGW.out b hb; omega) (hardRec S.up.hard) (by have := hardRec_len S.up.hard; omega) (hardRec_ne _))
          clear hb10 c0 c1 c2' HD9 HT9 HK9 HRR9
          go_wp2_with fail
          refine Calls.mono HP10.out ?_
          rintro e w12 ⟨rfl, hd12, ht12⟩
          have HD12 := hid hd12
          have HT12 := hid (HT10.out.trans ht12 (fun b hb => .inl hb))
          have HK12 := hid ((ht12.block (Array.getElem?_eq_some_iff.1 HK10.out).1 (by have := HPW.out; have := HKW.out; simp only [List.mem_singleton]; omega)).trans HK10.out)
          have HRR12 := hid (keeps2 HRR10.out.1 HRR10.out.2 HK10.out HPW.out (ht12.mono (by simp)))
          clear hd12 ht12 HK10 HRR10 HP10
          generalize hqq : Ds.sync' (d5.add (hardRec S.up.hard)) = q3 at *
          obtain ⟨d3, e5⟩ := q3
          simp only at HJ2 HD12
          by_cases he5 : e5 = 0
          · subst he5
            have HJ4 := hid (HJ2.out.trans (if_neg (by simp)))
            clear HJ2 hqq
            have HRJ := hid (rj_made (S := S.up) (vc := vc) (vl := vl) HD12.out HGW.out HPW.out HT12.out.size (by rw [HUL.out]; exact HRR12.out.1) (by rw [HUL.out]; exact HRR12.out.2) HUO.out (by rw [HUL.out]; have := HSO.out.2; have := HSN.out; omega))
            have HT13 : Hid (Turn [p] W (w12.alloc (.cells (rjCells p S.up vc vl) 54))) := hid (HT12.out.trans (Turn.alloc (F := [p]) _ _) (fun b hb => .inl hb))
            have HSZ := hid HT12.out.size
            go_upto_region 21 with fail
            as_aux_lemma =>
            go_wp2_with (first
              | (refine wpList_load_row rfl 51 _ rfl k (by rfl) 51 (toldCells S.up vc vl) (0, 0) _ HK12.out Tryz.underlying51 rfl sizeTold ?_)
              | (refine wpList_built rfl 54 #[(0, .tmp 69), (1, .tmp 70)] rfl (rjCells p S.up vc vl) [(0, .pointer (some ⟨p, 0, none⟩)), (1, .agg (toldCells S.up vc vl))] (by simp [Act.eval]; exact ⟨rfl, rfl⟩) (built_rj p S.up vc vl) ?_))
            go_ret2
            exact ROpenPost.yes HJ4.out HRJ.out HT13.out HSZ.out
          · have HJ4 := hid (HJ2.out.trans (if_pos he5))
            have HD13 := hid (HD12.out.sub (G' := G) (fun b hb => List.mem_cons_of_mem _ hb))
            have i1 : ((e5 : Int) != 0) = true := by simp only [bne_iff_ne, ne_eq]; omega
            have i2 : ¬ ((e5 : Int) = 0) := by omega
            clear he5 HJ2 hqq HD12
            go_wp2_with fail
            go_ret2
            exact ROpenPost.no HJ4.out HD13.out HT12.out
    · have HJ1 := hid (HJ.out.trans (if_pos he1))
      have i1 : ((e1 : Int) != 0) = true := by simp only [bne_iff_ne, ne_eq]; omega
      have i2 : ¬ ((e1 : Int) = 0) := by omega
      clear he1 HJ
      go_wp2_with fail
      go_ret2
      exact ROpenPost.no HJ1.out HD1.out HT1.out
end Go.Proofs.YtmehcogaopackaaGreat
