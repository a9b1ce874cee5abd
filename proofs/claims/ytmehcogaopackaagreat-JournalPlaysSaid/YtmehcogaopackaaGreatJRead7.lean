/-
  The walk of the journal's read.
-/
import Derived.LoopTactic
import Derived.Test.YtmehcogaopackaaGreatGH
namespace Go.Proofs.YtmehcogaopackaaGreat
open Go.RowKit
set_option linter.unusedVariables false
set_option linter.unusedSimpArgs false
/-- how read ends -/
def ReadPost (r : Option Js) (B : Nat) (e : Ending) (W' : World) : Prop :=
  match r with
  | some S => ∃ z vc vl, z ≤ 262144 ∧ e = .returned (.tuple #[.agg (stCells S z vc vl), .bool true]) ∧ W'.ownsRow B 3 1 vc S.log.conf.length (intVals S.log.conf) ∧ W'.ownsRow B 116 3 vl S.log.l.length (enVals S.log.l)
  | none => e = .returned (.tuple #[.agg stZ, .bool false])
theorem kept2_to_below {B b k : Nat} {w w3 W : World} (h : Below B w w3) (g : Kept2 b k w3 W) (hB : B ≤ w3.heap.size) (hb : B ≤ b) (hk : B ≤ k) : Below B w W :=
  ⟨g.1.trans h.os, g.2.1.trans h.tape, g.2.2.1.trans h.output, Nat.le_trans h.size g.2.2.2.1, fun j hj => (g.2.2.2.2 j (by omega) (by omega) (by omega)).trans (h.block j hj)⟩
theorem kept2_swap {b k : Nat} {w w' : World} (h : Kept2 b k w w') : Kept2 k b w w' := ⟨h.1, h.2.1, h.2.2.1, h.2.2.2.1, fun j hj h1 h2 => h.2.2.2.2 j hj h2 h1⟩
theorem door_fault {k o : Nat} {R : Ending → World → Prop} (a : Act) (W : World) (hd : a.defers = [{ target := Target.fn (Fn.func 80) #[.pointer (some ⟨k, 0, none⟩), .pointer (some ⟨o, 0, none⟩)], args := #[] }]) (hp : a.tmps.getD 2 undef = .pointer (some ⟨k, 0, none⟩)) (hq : a.tmps.getD 3 undef = .pointer (some ⟨o, 0, none⟩))
    (cs0 : Array Value) (hcs : cs0.size = 9) (hk : W.heap[k]? = some (.cells cs0 98)) (v : Value) (ho : W.heap[o]? = some (.cells #[v] 4)) (hR : ∀ W', Kept2 k o W W' → R (.returned (.tuple #[.agg stZ, .bool false])) W') :
    bodyPostD Tryz.prog Tryz.f46 R (.panic fault) a W := by
  show Leaves Tryz.prog Tryz.f46 a.tmps R a.defers (.panicking fault) W
  rw [hd]
  refine leaves_cons (f := 80) (args := #[.pointer (some ⟨k, 0, none⟩), .pointer (some ⟨o, 0, none⟩)]) (by simp) (by simp [go_sem]) ?_
  refine (catch_fault k o [] W cs0 hcs hk v ho).mono ?_
  rintro e u' W' ⟨rfl, rfl, h1, h2, h3⟩
  exact ⟨_, results_read a.tmps W' k o stZ false hp hq h1 rfl h2, hR W' h3⟩
theorem door_good {k o : Nat} {R : Ending → World → Prop} (a : Act) (W : World) (hd : a.defers = [{ target := Target.fn (Fn.func 80) #[.pointer (some ⟨k, 0, none⟩), .pointer (some ⟨o, 0, none⟩)], args := #[] }]) (hp : a.tmps.getD 2 undef = .pointer (some ⟨k, 0, none⟩)) (hq : a.tmps.getD 3 undef = .pointer (some ⟨o, 0, none⟩))
    (cs0 : Array Value) (hcs : cs0.size = 9) (hk : W.heap[k]? = some (.cells cs0 98)) (v : Bool) (ho : W.heap[o]? = some (.cells #[.bool v] 4)) (hR : R (.returned (.tuple #[.agg cs0, .bool v])) W) :
    bodyPostD Tryz.prog Tryz.f46 R .ret a W := by
  show Leaves Tryz.prog Tryz.f46 a.tmps R a.defers .returning W
  rw [hd]
  refine leaves_cons (f := 80) (args := #[.pointer (some ⟨k, 0, none⟩), .pointer (some ⟨o, 0, none⟩)]) (by simp) (by simp [go_sem]) ?_
  refine (catch_idle k o W).mono ?_
  rintro e u' W' ⟨rfl, rfl, rfl⟩
  exact ⟨_, results_read a.tmps W' k o cs0 v hp hq hk hcs ho, hR⟩
/-- the readers of the kinds of records -/
def kindCells : Array Value := #[.nilFunc, .func (.func 82) #[] #[], .func (.func 83) #[] #[], .func (.func 84) #[] #[], .func (.func 85) #[] #[]]
theorem sizeKinds : (Tryz.prog.info? 145).map (·.size) = some 5 := by kernel_rfl
/-- what stands beside the state -/
def RdBy (k o kb : Nat) (w W : World) : Prop := W.heap[o]? = some (.cells #[.bool false] 4) ∧ W.heap[kb]? = some (.cells kindCells 145) ∧ Below k w W ∧ k ≤ W.heap.size
theorem RdBy.turn {k o kb : Nat} {w W W' : World} (h : RdBy k o kb w W) {F : List Nat} (t : Turn F W W') (hF : ∀ j ∈ F, k ≤ j ∧ j ≠ o ∧ j ≠ kb) : RdBy k o kb w W' :=
  ⟨(t.block (Array.getElem?_eq_some_iff.1 h.1).1 (fun hm => (hF o hm).2.1 rfl)).trans h.1, (t.block (Array.getElem?_eq_some_iff.1 h.2.1).1 (fun hm => (hF kb hm).2.2 rfl)).trans h.2.1,
    h.2.2.1.trans (t.toBelow h.2.2.2 (fun b hb => (hF b hb).1)), Nat.le_trans h.2.2.2 t.size⟩
theorem StAt.turn {W W' : World} {k B : Nat} {S : Js} {z : Nat} {vc vl : Value} (h : StAt W k B S z vc vl) {F : List Nat} (t : Turn F W W') (h1 : k ∉ F) (h2 : ∀ j ∈ F, some j ≠ vc.ownBlock ∧ some j ≠ vl.ownBlock) : StAt W' k B S z vc vl :=
  ⟨(t.block (Array.getElem?_eq_some_iff.1 h.1).1 h1).trans h.1, ownsRow_of_block h.2.1 fun r hr => t.block (h.2.1.lt r hr).2 (fun hm => (h2 r hm).1 hr.symm), ownsRow_of_block h.2.2 fun r hr => t.block (h.2.2.lt r hr).2 (fun hm => (h2 r hm).2 hr.symm)⟩
theorem StAt.ne {W : World} {k B : Nat} {S : Js} {z : Nat} {vc vl : Value} (h : StAt W k B S z vc vl) {p : Nat} {o : Obj} (hp : W.heap[p]? = some o) (h1 : ∀ cur, o ≠ .cells cur 3 (0, 0)) (h2 : ∀ cur, o ≠ .cells cur 116 (0, 0)) : some p ≠ vc.ownBlock ∧ some p ≠ vl.ownBlock := ⟨own_ne h.2.1 hp h1, own_ne h.2.2 hp h2⟩
theorem kindPost_none {s : Bytes} {b k B : Nat} {e : Ending} {W' : World} (h : KindPost none s b k B e W') : e = .panicked fault ∧ ∃ cs' : Array Value, cs'.size = 9 ∧ W'.heap[k]? = some (.cells cs' 98) := h
theorem kindPost_some {r : Js × Nat × (Nat × Nat)} {s : Bytes} {b k B : Nat} {e : Ending} {W' : World} (h : KindPost (some r) s b k B e W') : e = .returned (.tuple #[]) ∧ ∃ vc' vl', RS W' b s r.2.2 ∧ StAt W' k B r.1 r.2.1 vc' vl' := h
theorem rdStep_bad {f : Bool} {x : Bytes} {S : Js} {z kd : Nat} {st1 : Nat × Nat} (E : pCount 4 x (0, 0) = (kd, st1)) (h : ¬ (0 < kd ∧ (decide (kd = 1) = f) ∧ (kd < 3 ∨ S.image.length = z))) : rdStep f x (S, z) = none := by
  unfold rdStep
  simp only [E]
  rw [if_neg h]
theorem rdStep_kind {f : Bool} {x : Bytes} {S : Js} {z kd : Nat} {st1 : Nat × Nat} (E : pCount 4 x (0, 0) = (kd, st1)) (h : 0 < kd ∧ (decide (kd = 1) = f) ∧ (kd < 3 ∨ S.image.length = z)) : rdStep f x (S, z) = (rdKind kd x st1 S z).bind fun r => if pEnd x r.2.2 = 0 then some (r.1, r.2.1) else none := by
  unfold rdStep
  simp only [E]
  rw [if_pos h]
theorem rd_none {xs : List Bytes} (h : rdGo true (Js.zero, 0) xs = none) : rd xs = none := by
  unfold rd
  rw [h]
  split
  · rfl
  · rfl
theorem rdGo_next {f : Bool} {P : Js × Nat} {xs : List Bytes} {q : Nat} (hq : q < xs.length) (r : Option (Js × Nat)) (hr : rdStep f xs[q] P = r) : rdGo f P (xs.drop q) = r.bind fun P' => rdGo false P' (xs.drop (q + 1)) := by
  rw [List.drop_eq_getElem_cons hq, ← hr]
  rfl

set_option maxRecDepth 100000 in
set_option maxHeartbeats 4000000 in
theorem jread_any (xs : List Bytes) (v : Value) (w : World) (hv : Cells [] w v xs.length (strVals xs)) (hx : ∀ x ∈ xs, x.length ≤ 65536) (hn : xs.length ≤ 1000000) :
    Calls Tryz.prog 46 #[v] w fun e w' => Below w.heap.size w w' ∧ ReadPost (rd xs) w.heap.size e w' := by
  have hmf : ∀ (fn : Fn) (first cap : Array Value) (w : World), (Instr.makeFunc fn first cap).run Tryz.prog w = .ok (.func fn first cap) w := fun _ _ _ _ => rfl
  obtain ⟨a, cap, rfl⟩ := hv.form
  obtain ⟨_, hcap, hcell⟩ := hv.at
  have HX := hid hcell
  clear hcell hv
  go_enter_defers Tryz.func46, Tryz.ntmps46
  go_wp2_with fail
  have hk := blk_below (heap_alloc_new w (.cells stZ 98)) ((Below.refl _ _).alloc (Nat.le_refl _) (.cells #[.bool false] 4))
  have ho := heap_alloc_new (w.alloc (.cells stZ 98)) (.cells #[.bool false] 4)
  have hb : Below w.heap.size w ((w.alloc (.cells stZ 98)).alloc (.cells #[.bool false] 4)) := ((Below.refl _ _).alloc (Nat.le_refl _) _).alloc (by simp) _
  have hs2 : ((w.alloc (.cells stZ 98)).alloc (.cells #[.bool false] 4)).heap.size = w.heap.size + 2 := by simp
  rw [World.size_alloc] at ho
  rw [show #[Value.int IntKind.u64 0, Value.int IntKind.i64 0, Value.int IntKind.u64 0, Value.int IntKind.u64 0, Value.int IntKind.u64 0, Value.slice none 0 0, Value.slice none 0 0, Value.string { data := #[] }, Value.int IntKind.u64 0] = stZ from rfl]
  generalize (w.alloc (.cells stZ 98)).alloc (.cells #[.bool false] 4) = W2 at *
  generalize hkk : w.heap.size = k at *
  generalize hoo : k + 1 = o at *
  have HK := hid hk
  have HO := hid ho
  have HB := hid hb
  clear hk ho hb
  by_cases hx0 : xs = []
  · subst hx0
    refine Calls.mono (must_no (by simp) _) ?_
    rintro e w1 ⟨rfl, rfl⟩
    go_wp2_with fail
    exact door_fault _ _ rfl rfl rfl _ rfl HK.out _ HO.out fun W' h => by show Below w.heap.size w W' ∧ ReadPost _ w.heap.size _ W'; rw [hkk]; exact ⟨kept2_to_below HB.out h (by omega) (by omega) (by omega), rfl⟩
  · have hl : 0 < xs.length := List.length_pos_iff.2 hx0
    refine Calls.mono (must_yes (by simpa using hl) _) ?_
    rintro e w1 ⟨rfl, rfl⟩
    have hkb := heap_alloc_new w1 (.cells #[.nilFunc, .nilFunc, .nilFunc, .nilFunc, .nilFunc] 145)
    have hb3 : Below k w ((w1.alloc (.cells #[.nilFunc, .nilFunc, .nilFunc, .nilFunc, .nilFunc] 145)).setRow w1.heap.size kindCells) := ⟨HB.out.os, HB.out.tape, HB.out.output, by simp [World.setRow]; omega, fun j hj => (setRow_other _ _ _ _ (by omega)).trans (((heap_alloc_old w1 _ (by omega))).trans (HB.out.block j hj))⟩
    have hk3 : ((w1.alloc (.cells #[.nilFunc, .nilFunc, .nilFunc, .nilFunc, .nilFunc] 145)).setRow w1.heap.size kindCells).heap[k]? = some (.cells stZ 98) := (setRow_other _ _ _ _ (by omega)).trans ((heap_alloc_old w1 _ (by omega)).trans HK.out)
    have ho3 : ((w1.alloc (.cells #[.nilFunc, .nilFunc, .nilFunc, .nilFunc, .nilFunc] 145)).setRow w1.heap.size kindCells).heap[o]? = some (.cells #[.bool false] 4) := (setRow_other _ _ _ _ (by omega)).trans ((heap_alloc_old w1 _ (by omega)).trans HO.out)
    have hb4 := setRow_heap _ _ _ kindCells _ (0, 0) hkb
    have hs3 : ((w1.alloc (.cells #[.nilFunc, .nilFunc, .nilFunc, .nilFunc, .nilFunc] 145)).setRow w1.heap.size kindCells).heap.size = k + 3 := by simp [World.setRow]; omega
    rw [hs2] at hkb hb3 hk3 ho3 hb4 hs3
    have HB3 := hid hb3
    have HK3 := hid hk3
    have HO3 := hid ho3
    have HB4 := hid hb4
    have HKB := hid hkb
    clear hb3 hk3 ho3 hb4 hkb HK HO HB
    go_wp2_with (refine wpList_store_row rfl 145 _ _ rfl (k + 2) kindCells (by rfl) (by rfl) 145 _ HKB.out sizeKinds rfl (by simp [kindCells, Value.oneCell']) ?_)
    generalize hw4 : (w1.alloc (.cells #[.nilFunc, .nilFunc, .nilFunc, .nilFunc, .nilFunc] 145)).setRow (k + 2) kindCells = w4 at *
    generalize hkb2 : k + 2 = kb at *
    have HBY : Hid (RdBy k o kb w w4) := ⟨HO3.out, HB4.out, HB3.out, by omega⟩
    clear hw4 HKB HB3 HO3 HB4 hs2
    go_loopw [17] (fun i wr => ∃ (q : Nat) (S : Js) (z : Nat) (vc vl : Value), i = .int .i64 q ∧ q ≤ xs.length ∧ StAt wr k k S z vc vl ∧ RdBy k o kb w wr ∧ RdOk S z q ∧ Hid (rdGo (decide (q = 0)) (S, z) (xs.drop q) = rdGo true (Js.zero, 0) xs)) (fun i _ => xs.length - (intOf i).toNat)
    case atStart => exact ⟨0, Js.zero, 0, _, _, rfl, Nat.zero_le _, ⟨HK3.out, World.ownsRow_nil _ _ _ _, World.ownsRow_nil _ _ _ _⟩, HBY.out, ⟨JsOk.zero, by omega, by decide, by decide⟩, rfl⟩
    case round =>
      obtain ⟨q, S, z, vc, vl, rfl, hq, hst, hby, hok, HG⟩ := hrel
      have HST := hid hst
      have HBY1 := hid hby
      have HOK := hid hok
      clear hst hby hok
      by_cases hlt : q < xs.length
      · obtain ⟨ba, off, rfl, hcell⟩ := HX.out (by rw [strVals_len]; omega)
        have hxc := hcell wr HBY1.out.2.2.1 _ _ (strVals_at xs q hlt)
        clear hcell
        have HN := hid (rdGo_next (f := decide (q = 0)) (P := (S, z)) hlt)
        have hxl := hx xs[q] (List.getElem_mem hlt)
        generalize xs[q] = x at *
        have hkw := HBY1.out.2.2.2
        go_wp2_with fail
        refine Calls.mono (open_any x wr) ?_
        rintro e w5 ⟨rfl, hr5, hb5⟩
        have HR5 : Hid (RS w5 wr.heap.size x (0, 0)) := ⟨hr5, Nat.zero_le _⟩
        have HST5 := hid (HST.out.turn (F := []) (Turn.below hb5) (by simp) (by simp))
        have HBY5 := hid (HBY1.out.turn (F := []) (Turn.below hb5) (by simp))
        have hob : o ≠ wr.heap.size := fun e => by have := (Array.getElem?_eq_some_iff.1 HBY1.out.1).1; omega
        have hkbb : kb ≠ wr.heap.size := fun e => by have := (Array.getElem?_eq_some_iff.1 HBY1.out.2.1).1; omega
        have hkbk : k ≠ wr.heap.size := fun e => by have := (Array.getElem?_eq_some_iff.1 HST.out.1).1; omega
        clear hr5 hb5 HST HBY1 hxc
        generalize wr.heap.size = b at *
        go_wp2_with fail
        obtain ⟨kd, st1, E⟩ := pair_of (pCount 4 x (0, 0))
        refine Calls.mono (rsCountE (m := 4) (by decide) E HR5.out (by omega)) ?_
        rintro e w6 ⟨rfl, hr6, ho6⟩
        have hkd : kd ≤ 4 := by have := pCount_le 4 x (0, 0); rw [E] at this; exact this
        have HE := hid E
        have HR6 := hid hr6
        have HST6 := hid (HST5.out.turn (Turn.grown ho6 (by simp) (F := [b])) (by simpa using hkbk) (by simpa using HST5.out.ne HR5.out.1 (fun cur e => by cases e) (fun cur e => by cases e)))
        have HBY6 := hid (HBY5.out.turn (Turn.grown ho6 (by simp) (F := [b])) (by simp; exact ⟨hkw, Ne.symm hob, Ne.symm hkbb⟩))
        clear E hr6 ho6 HR5 HST5 HBY5
        have c7 : w6.cell? ⟨k, 7, none⟩ = some (.string (str S.image)) := cell_in HST6.out.1 7 _ rfl
        have c8 : w6.cell? ⟨k, 8, none⟩ = some (.int .u64 z) := cell_in HST6.out.1 8 _ rfl
        have him : (str S.image).size = S.image.length := str_size _
        have hwz : IntKind.u64.wrap (z : Int) = (z : Int) := by have h1 := HOK.out.2.1; rw [IntKind.wrap_u64]; omega
        have hwi : IntKind.u64.wrap (S.image.length : Int) = (S.image.length : Int) := by have h1 := HOK.out.2.1; have h2 := HOK.out.2.2.1; rw [IntKind.wrap_u64]; omega
        rcases (show kd = 0 ∨ kd = 1 ∨ kd = 2 ∨ kd = 3 ∨ kd = 4 by omega) with rfl | rfl | rfl | rfl | rfl
        · as_aux_lemma =>
            go_wp2_with fail
            refine Calls.mono (must_no (by first | rfl | (simp; done) | (simp [hwz, hwi]; done) | (simp [hwz, hwi]; omega)) _) ?_
            rintro e w7 ⟨rfl, rfl⟩
            have HRN := hid (rd_none (HG.out.symm.trans (HN.out none (rdStep_bad HE.out (by simp [*])))))
            go_wp2_with fail
            exact door_fault _ _ rfl rfl rfl _ (stCells_size S z vc vl) HST6.out.1 _ HBY6.out.1 fun W' h => by show Below w.heap.size w W' ∧ ReadPost _ w.heap.size _ W'; rw [hkk]; exact ⟨kept2_to_below HBY6.out.2.2.1 h HBY6.out.2.2.2 (by omega) (by omega), by rw [HRN.out]; rfl⟩
        · cases q with
          | zero =>
            as_aux_lemma =>
              go_wp2_with fail
              have HS := hid (rdStep_kind (f := decide (0 = 0)) (S := S) (z := z) HE.out (by simp [*]))
              have ckk : w6.cell? ⟨kb, 1, none⟩ = some (.func (.func 82) #[] #[]) := cell_in HBY6.out.2.1 1 _ rfl
              refine Calls.mono (must_yes (by first | rfl | (simp; done) | (simp [hwz, hwi]; done) | (simp [hwz, hwi]; omega)) _) ?_
              rintro e w7 ⟨rfl, rfl⟩
              go_wp2_with fail
              refine Calls.mono (kind_any (n := 0) (by omega) 1 (by decide) (by decide) HR6.out HST6.out (Ne.symm hkbk) ⟨by omega, Nat.le_refl _⟩ HOK.out (by omega)) ?_
              rintro e w8 ⟨ht8, hp8⟩
              have HBY8 := hid (HBY6.out.turn ht8 (by
                intro j hj
                rcases List.mem_cons.1 hj with rfl | hj
                · exact ⟨hkw, Ne.symm hob, Ne.symm hkbb⟩
                · rcases List.mem_cons.1 hj with rfl | hj
                  · exact ⟨Nat.le_refl _, by omega, by omega⟩
                  · have hj2 := mem_ownL.1 hj
                    exact ⟨(HST6.out.2.2.lt j hj2).1, fun e => (HST6.out.ne HBY6.out.1 (fun cur e => by cases e) (fun cur e => by cases e)).2 (by rw [hj2, e]), fun e => (HST6.out.ne HBY6.out.2.1 (fun cur e => by cases e) (fun cur e => by cases e)).2 (by rw [hj2, e])⟩))
              cases hrk : rdKind 1 x st1 S z with
              | none =>
                rw [hrk] at hp8
                obtain ⟨rfl, cs', hcs', hk8⟩ := kindPost_none hp8
                have HRN := hid (rd_none (HG.out.symm.trans (HN.out none (by refine Eq.trans HS.out ?_; rw [hrk]; rfl))))
                have HK8 := hid hk8
                clear hk8 hp8 ht8 hrk ckk
                go_wp2_with fail
                exact door_fault _ _ rfl rfl rfl _ hcs' HK8.out _ HBY8.out.1 fun W' h => by show Below w.heap.size w W' ∧ ReadPost _ w.heap.size _ W'; rw [hkk]; exact ⟨kept2_to_below HBY8.out.2.2.1 h HBY8.out.2.2.2 (by omega) (by omega), by rw [HRN.out]; rfl⟩
              | some r =>
                have HOK8 := hid (rdKind_ok hrk HOK.out)
                rw [hrk] at hp8
                obtain ⟨rfl, vc', vl', hr8, hst8⟩ := kindPost_some hp8
                obtain ⟨S', z', st2⟩ := r
                have HR8 := hid hr8
                have HST8 := hid hst8
                have HRK := hid hrk
                clear hr8 hst8 hp8 ht8 hrk ckk
                go_wp2_with fail
                refine Calls.mono (rsEnd HR8.out) ?_
                rintro e w9 ⟨rfl, ho9⟩
                have HST9 := hid (HST8.out.turn (Turn.grown ho9 (by simp) (F := [b])) (by simpa using hkbk) (by simpa using HST8.out.ne HR8.out.1 (fun cur e => by cases e) (fun cur e => by cases e)))
                have HBY9 := hid (HBY8.out.turn (Turn.grown ho9 (by simp) (F := [b])) (by simp; exact ⟨hkw, Ne.symm hob, Ne.symm hkbb⟩))
                clear ho9 HST6 HST8 HBY6 HBY8
                by_cases hpe : pEnd x st2 = 0
                · have HNX := hid (HG.out.symm.trans (HN.out (some (S', z')) (by refine Eq.trans HS.out ?_; rw [HRK.out]; exact if_pos hpe)))
                  rw [hpe]
                  go_wp2_with fail
                  refine Calls.mono (must_yes (by first | rfl | (simp; done) | (simp [hwz, hwi]; done) | (simp [hwz, hwi]; omega)) _) ?_
                  rintro e w10 ⟨rfl, rfl⟩
                  go_wp2_with fail
                  go_roundw
                  case rel => exact ⟨0 + 1, S', z', vc', vl', by go_num, by omega, HST9.out, HBY9.out, HOK8.out, by rw [show decide (0 + 1 = 0) = false by simp]; exact HNX.out.symm⟩
                  case measure => simp [intOf]; omega
                · have HRN := hid (rd_none (HG.out.symm.trans (HN.out none (by refine Eq.trans HS.out ?_; rw [HRK.out]; exact if_neg hpe))))
                  have hpe1 : ((pEnd x st2 : Int) == 0) = false := by simp only [beq_eq_false_iff_ne, ne_eq]; omega
                  clear hpe
                  generalize pEnd x st2 = pe at *
                  go_wp2_with fail
                  refine Calls.mono (must_no (by first | exact hpe1 | rfl | (simp; done)) _) ?_
                  rintro e w10 ⟨rfl, rfl⟩
                  go_wp2_with fail
                  exact door_fault _ _ rfl rfl rfl _ (stCells_size S' z' vc' vl') HST9.out.1 _ HBY9.out.1 fun W' h => by show Below w.heap.size w W' ∧ ReadPost _ w.heap.size _ W'; rw [hkk]; exact ⟨kept2_to_below HBY9.out.2.2.1 h HBY9.out.2.2.2 (by omega) (by omega), by rw [HRN.out]; rfl⟩
          | succ m =>
            as_aux_lemma =>
              have hm1 : ¬ (((m : Int) + 1) = 0) := by omega
              go_wp2_with fail
              refine Calls.mono (must_no (by first | rfl | (simp; done) | (simp [hwz, hwi]; done) | (simp [hwz, hwi]; omega)) _) ?_
              rintro e w7 ⟨rfl, rfl⟩
              have HRN := hid (rd_none (HG.out.symm.trans (HN.out none (rdStep_bad HE.out (by simp [*])))))
              go_wp2_with fail
              exact door_fault _ _ rfl rfl rfl _ (stCells_size S z vc vl) HST6.out.1 _ HBY6.out.1 fun W' h => by show Below w.heap.size w W' ∧ ReadPost _ w.heap.size _ W'; rw [hkk]; exact ⟨kept2_to_below HBY6.out.2.2.1 h HBY6.out.2.2.2 (by omega) (by omega), by rw [HRN.out]; rfl⟩
        · cases q with
          | zero =>
            as_aux_lemma =>
              go_wp2_with fail
              refine Calls.mono (must_no (by first | rfl | (simp; done) | (simp [hwz, hwi]; done) | (simp [hwz, hwi]; omega)) _) ?_
              rintro e w7 ⟨rfl, rfl⟩
              have HRN := hid (rd_none (HG.out.symm.trans (HN.out none (rdStep_bad HE.out (by simp [*])))))
              go_wp2_with fail
              exact door_fault _ _ rfl rfl rfl _ (stCells_size S z vc vl) HST6.out.1 _ HBY6.out.1 fun W' h => by show Below w.heap.size w W' ∧ ReadPost _ w.heap.size _ W'; rw [hkk]; exact ⟨kept2_to_below HBY6.out.2.2.1 h HBY6.out.2.2.2 (by omega) (by omega), by rw [HRN.out]; rfl⟩
          | succ m =>
            as_aux_lemma =>
              have hm1 : ¬ (((m : Int) + 1) = 0) := by omega
              go_wp2_with fail
              have HS := hid (rdStep_kind (f := decide (m + 1 = 0)) (S := S) (z := z) HE.out (by simp [*]))
              have ckk : w6.cell? ⟨kb, 2, none⟩ = some (.func (.func 83) #[] #[]) := cell_in HBY6.out.2.1 2 _ rfl
              refine Calls.mono (must_yes (by first | rfl | (simp; done) | (simp [hwz, hwi]; done) | (simp [hwz, hwi]; omega)) _) ?_
              rintro e w7 ⟨rfl, rfl⟩
              go_wp2_with fail
              refine Calls.mono (kind_any (n := m + 1) (by omega) 2 (by decide) (by decide) HR6.out HST6.out (Ne.symm hkbk) ⟨by omega, Nat.le_refl _⟩ HOK.out (by omega)) ?_
              rintro e w8 ⟨ht8, hp8⟩
              have HBY8 := hid (HBY6.out.turn ht8 (by
                intro j hj
                rcases List.mem_cons.1 hj with rfl | hj
                · exact ⟨hkw, Ne.symm hob, Ne.symm hkbb⟩
                · rcases List.mem_cons.1 hj with rfl | hj
                  · exact ⟨Nat.le_refl _, by omega, by omega⟩
                  · have hj2 := mem_ownL.1 hj
                    exact ⟨(HST6.out.2.2.lt j hj2).1, fun e => (HST6.out.ne HBY6.out.1 (fun cur e => by cases e) (fun cur e => by cases e)).2 (by rw [hj2, e]), fun e => (HST6.out.ne HBY6.out.2.1 (fun cur e => by cases e) (fun cur e => by cases e)).2 (by rw [hj2, e])⟩))
              cases hrk : rdKind 2 x st1 S z with
              | none =>
                rw [hrk] at hp8
                obtain ⟨rfl, cs', hcs', hk8⟩ := kindPost_none hp8
                have HRN := hid (rd_none (HG.out.symm.trans (HN.out none (by refine Eq.trans HS.out ?_; rw [hrk]; rfl))))
                have HK8 := hid hk8
                clear hk8 hp8 ht8 hrk ckk
                go_wp2_with fail
                exact door_fault _ _ rfl rfl rfl _ hcs' HK8.out _ HBY8.out.1 fun W' h => by show Below w.heap.size w W' ∧ ReadPost _ w.heap.size _ W'; rw [hkk]; exact ⟨kept2_to_below HBY8.out.2.2.1 h HBY8.out.2.2.2 (by omega) (by omega), by rw [HRN.out]; rfl⟩
              | some r =>
                have HOK8 := hid (rdKind_ok hrk HOK.out)
                rw [hrk] at hp8
                obtain ⟨rfl, vc', vl', hr8, hst8⟩ := kindPost_some hp8
                obtain ⟨S', z', st2⟩ := r
                have HR8 := hid hr8
                have HST8 := hid hst8
                have HRK := hid hrk
                clear hr8 hst8 hp8 ht8 hrk ckk
                go_wp2_with fail
                refine Calls.mono (rsEnd HR8.out) ?_
                rintro e w9 ⟨rfl, ho9⟩
                have HST9 := hid (HST8.out.turn (Turn.grown ho9 (by simp) (F := [b])) (by simpa using hkbk) (by simpa using HST8.out.ne HR8.out.1 (fun cur e => by cases e) (fun cur e => by cases e)))
                have HBY9 := hid (HBY8.out.turn (Turn.grown ho9 (by simp) (F := [b])) (by simp; exact ⟨hkw, Ne.symm hob, Ne.symm hkbb⟩))
                clear ho9 HST6 HST8 HBY6 HBY8
                by_cases hpe : pEnd x st2 = 0
                · have HNX := hid (HG.out.symm.trans (HN.out (some (S', z')) (by refine Eq.trans HS.out ?_; rw [HRK.out]; exact if_pos hpe)))
                  rw [hpe]
                  go_wp2_with fail
                  refine Calls.mono (must_yes (by first | rfl | (simp; done) | (simp [hwz, hwi]; done) | (simp [hwz, hwi]; omega)) _) ?_
                  rintro e w10 ⟨rfl, rfl⟩
                  go_wp2_with fail
                  go_roundw
                  case rel => exact ⟨m + 1 + 1, S', z', vc', vl', by go_num, by omega, HST9.out, HBY9.out, HOK8.out, by rw [show decide (m + 1 + 1 = 0) = false by simp]; exact HNX.out.symm⟩
                  case measure => simp [intOf]; omega
                · have HRN := hid (rd_none (HG.out.symm.trans (HN.out none (by refine Eq.trans HS.out ?_; rw [HRK.out]; exact if_neg hpe))))
                  have hpe1 : ((pEnd x st2 : Int) == 0) = false := by simp only [beq_eq_false_iff_ne, ne_eq]; omega
                  clear hpe
                  generalize pEnd x st2 = pe at *
                  go_wp2_with fail
                  refine Calls.mono (must_no (by first | exact hpe1 | rfl | (simp; done)) _) ?_
                  rintro e w10 ⟨rfl, rfl⟩
                  go_wp2_with fail
                  exact door_fault _ _ rfl rfl rfl _ (stCells_size S' z' vc' vl') HST9.out.1 _ HBY9.out.1 fun W' h => by show Below w.heap.size w W' ∧ ReadPost _ w.heap.size _ W'; rw [hkk]; exact ⟨kept2_to_below HBY9.out.2.2.1 h HBY9.out.2.2.2 (by omega) (by omega), by rw [HRN.out]; rfl⟩
        · cases q with
          | zero =>
            as_aux_lemma =>
              go_wp2_with fail
              refine Calls.mono (must_no (by first | rfl | (simp; done) | (simp [hwz, hwi]; done) | (simp [hwz, hwi]; omega)) _) ?_
              rintro e w7 ⟨rfl, rfl⟩
              have HRN := hid (rd_none (HG.out.symm.trans (HN.out none (rdStep_bad HE.out (by simp [*])))))
              go_wp2_with fail
              exact door_fault _ _ rfl rfl rfl _ (stCells_size S z vc vl) HST6.out.1 _ HBY6.out.1 fun W' h => by show Below w.heap.size w W' ∧ ReadPost _ w.heap.size _ W'; rw [hkk]; exact ⟨kept2_to_below HBY6.out.2.2.1 h HBY6.out.2.2.2 (by omega) (by omega), by rw [HRN.out]; rfl⟩
          | succ m =>
              have hm1 : ¬ (((m : Int) + 1) = 0) := by omega
              by_cases hiz : S.image.length = z
              · as_aux_lemma =>
                  have hiz1 : (S.image.length : Int) = (z : Int) := by omega
                  go_wp2_with fail
                  have HS := hid (rdStep_kind (f := decide (m + 1 = 0)) (S := S) (z := z) HE.out (by simp [*]))
                  have ckk : w6.cell? ⟨kb, 3, none⟩ = some (.func (.func 84) #[] #[]) := cell_in HBY6.out.2.1 3 _ rfl
                  refine Calls.mono (must_yes (by first | rfl | (simp; done) | (simp [hwz, hwi]; done) | (simp [hwz, hwi]; omega)) _) ?_
                  rintro e w7 ⟨rfl, rfl⟩
                  go_wp2_with fail
                  refine Calls.mono (kind_any (n := m + 1) (by omega) 3 (by decide) (by decide) HR6.out HST6.out (Ne.symm hkbk) ⟨by omega, Nat.le_refl _⟩ HOK.out (by omega)) ?_
                  rintro e w8 ⟨ht8, hp8⟩
                  have HBY8 := hid (HBY6.out.turn ht8 (by
                    intro j hj
                    rcases List.mem_cons.1 hj with rfl | hj
                    · exact ⟨hkw, Ne.symm hob, Ne.symm hkbb⟩
                    · rcases List.mem_cons.1 hj with rfl | hj
                      · exact ⟨Nat.le_refl _, by omega, by omega⟩
                      · have hj2 := mem_ownL.1 hj
                        exact ⟨(HST6.out.2.2.lt j hj2).1, fun e => (HST6.out.ne HBY6.out.1 (fun cur e => by cases e) (fun cur e => by cases e)).2 (by rw [hj2, e]), fun e => (HST6.out.ne HBY6.out.2.1 (fun cur e => by cases e) (fun cur e => by cases e)).2 (by rw [hj2, e])⟩))
                  cases hrk : rdKind 3 x st1 S z with
                  | none =>
                    rw [hrk] at hp8
                    obtain ⟨rfl, cs', hcs', hk8⟩ := kindPost_none hp8
                    have HRN := hid (rd_none (HG.out.symm.trans (HN.out none (by refine Eq.trans HS.out ?_; rw [hrk]; rfl))))
                    have HK8 := hid hk8
                    clear hk8 hp8 ht8 hrk ckk
                    go_wp2_with fail
                    exact door_fault _ _ rfl rfl rfl _ hcs' HK8.out _ HBY8.out.1 fun W' h => by show Below w.heap.size w W' ∧ ReadPost _ w.heap.size _ W'; rw [hkk]; exact ⟨kept2_to_below HBY8.out.2.2.1 h HBY8.out.2.2.2 (by omega) (by omega), by rw [HRN.out]; rfl⟩
                  | some r =>
                    have HOK8 := hid (rdKind_ok hrk HOK.out)
                    rw [hrk] at hp8
                    obtain ⟨rfl, vc', vl', hr8, hst8⟩ := kindPost_some hp8
                    obtain ⟨S', z', st2⟩ := r
                    have HR8 := hid hr8
                    have HST8 := hid hst8
                    have HRK := hid hrk
                    clear hr8 hst8 hp8 ht8 hrk ckk
                    go_wp2_with fail
                    refine Calls.mono (rsEnd HR8.out) ?_
                    rintro e w9 ⟨rfl, ho9⟩
                    have HST9 := hid (HST8.out.turn (Turn.grown ho9 (by simp) (F := [b])) (by simpa using hkbk) (by simpa using HST8.out.ne HR8.out.1 (fun cur e => by cases e) (fun cur e => by cases e)))
                    have HBY9 := hid (HBY8.out.turn (Turn.grown ho9 (by simp) (F := [b])) (by simp; exact ⟨hkw, Ne.symm hob, Ne.symm hkbb⟩))
                    clear ho9 HST6 HST8 HBY6 HBY8
                    by_cases hpe : pEnd x st2 = 0
                    · have HNX := hid (HG.out.symm.trans (HN.out (some (S', z')) (by refine Eq.trans HS.out ?_; rw [HRK.out]; exact if_pos hpe)))
                      rw [hpe]
                      go_wp2_with fail
                      refine Calls.mono (must_yes (by first | rfl | (simp; done) | (simp [hwz, hwi]; done) | (simp [hwz, hwi]; omega)) _) ?_
                      rintro e w10 ⟨rfl, rfl⟩
                      go_wp2_with fail
                      go_roundw
                      case rel => exact ⟨m + 1 + 1, S', z', vc', vl', by go_num, by omega, HST9.out, HBY9.out, HOK8.out, by rw [show decide (m + 1 + 1 = 0) = false by simp]; exact HNX.out.symm⟩
                      case measure => simp [intOf]; omega
                    · have HRN := hid (rd_none (HG.out.symm.trans (HN.out none (by refine Eq.trans HS.out ?_; rw [HRK.out]; exact if_neg hpe))))
                      have hpe1 : ((pEnd x st2 : Int) == 0) = false := by simp only [beq_eq_false_iff_ne, ne_eq]; omega
                      clear hpe
                      generalize pEnd x st2 = pe at *
                      go_wp2_with fail
                      refine Calls.mono (must_no (by first | exact hpe1 | rfl | (simp; done)) _) ?_
                      rintro e w10 ⟨rfl, rfl⟩
                      go_wp2_with fail
                      exact door_fault _ _ rfl rfl rfl _ (stCells_size S' z' vc' vl') HST9.out.1 _ HBY9.out.1 fun W' h => by show Below w.heap.size w W' ∧ ReadPost _ w.heap.size _ W'; rw [hkk]; exact ⟨kept2_to_below HBY9.out.2.2.1 h HBY9.out.2.2.2 (by omega) (by omega), by rw [HRN.out]; rfl⟩
              · as_aux_lemma =>
                  have hiz1 : ¬ ((S.image.length : Int) = (z : Int)) := by omega
                  go_wp2_with fail
                  refine Calls.mono (must_no (by first | rfl | (simp; done) | (simp [hwz, hwi]; done) | (simp [hwz, hwi]; omega)) _) ?_
                  rintro e w7 ⟨rfl, rfl⟩
                  have HRN := hid (rd_none (HG.out.symm.trans (HN.out none (rdStep_bad HE.out (by simp [*])))))
                  go_wp2_with fail
                  exact door_fault _ _ rfl rfl rfl _ (stCells_size S z vc vl) HST6.out.1 _ HBY6.out.1 fun W' h => by show Below w.heap.size w W' ∧ ReadPost _ w.heap.size _ W'; rw [hkk]; exact ⟨kept2_to_below HBY6.out.2.2.1 h HBY6.out.2.2.2 (by omega) (by omega), by rw [HRN.out]; rfl⟩
        · cases q with
          | zero =>
            as_aux_lemma =>
              go_wp2_with fail
              refine Calls.mono (must_no (by first | rfl | (simp; done) | (simp [hwz, hwi]; done) | (simp [hwz, hwi]; omega)) _) ?_
              rintro e w7 ⟨rfl, rfl⟩
              have HRN := hid (rd_none (HG.out.symm.trans (HN.out none (rdStep_bad HE.out (by simp [*])))))
              go_wp2_with fail
              exact door_fault _ _ rfl rfl rfl _ (stCells_size S z vc vl) HST6.out.1 _ HBY6.out.1 fun W' h => by show Below w.heap.size w W' ∧ ReadPost _ w.heap.size _ W'; rw [hkk]; exact ⟨kept2_to_below HBY6.out.2.2.1 h HBY6.out.2.2.2 (by omega) (by omega), by rw [HRN.out]; rfl⟩
          | succ m =>
              have hm1 : ¬ (((m : Int) + 1) = 0) := by omega
              by_cases hiz : S.image.length = z
              · as_aux_lemma =>
                  have hiz1 : (S.image.length : Int) = (z : Int) := by omega
                  go_wp2_with fail
                  have HS := hid (rdStep_kind (f := decide (m + 1 = 0)) (S := S) (z := z) HE.out (by simp [*]))
                  have ckk : w6.cell? ⟨kb, 4, none⟩ = some (.func (.func 85) #[] #[]) := cell_in HBY6.out.2.1 4 _ rfl
                  refine Calls.mono (must_yes (by first | rfl | (simp; done) | (simp [hwz, hwi]; done) | (simp [hwz, hwi]; omega)) _) ?_
                  rintro e w7 ⟨rfl, rfl⟩
                  go_wp2_with fail
                  refine Calls.mono (kind_any (n := m + 1) (by omega) 4 (by decide) (by decide) HR6.out HST6.out (Ne.symm hkbk) ⟨by omega, Nat.le_refl _⟩ HOK.out (by omega)) ?_
                  rintro e w8 ⟨ht8, hp8⟩
                  have HBY8 := hid (HBY6.out.turn ht8 (by
                    intro j hj
                    rcases List.mem_cons.1 hj with rfl | hj
                    · exact ⟨hkw, Ne.symm hob, Ne.symm hkbb⟩
                    · rcases List.mem_cons.1 hj with rfl | hj
                      · exact ⟨Nat.le_refl _, by omega, by omega⟩
                      · have hj2 := mem_ownL.1 hj
                        exact ⟨(HST6.out.2.2.lt j hj2).1, fun e => (HST6.out.ne HBY6.out.1 (fun cur e => by cases e) (fun cur e => by cases e)).2 (by rw [hj2, e]), fun e => (HST6.out.ne HBY6.out.2.1 (fun cur e => by cases e) (fun cur e => by cases e)).2 (by rw [hj2, e])⟩))
                  cases hrk : rdKind 4 x st1 S z with
                  | none =>
                    rw [hrk] at hp8
                    obtain ⟨rfl, cs', hcs', hk8⟩ := kindPost_none hp8
                    have HRN := hid (rd_none (HG.out.symm.trans (HN.out none (by refine Eq.trans HS.out ?_; rw [hrk]; rfl))))
                    have HK8 := hid hk8
                    clear hk8 hp8 ht8 hrk ckk
                    go_wp2_with fail
                    exact door_fault _ _ rfl rfl rfl _ hcs' HK8.out _ HBY8.out.1 fun W' h => by show Below w.heap.size w W' ∧ ReadPost _ w.heap.size _ W'; rw [hkk]; exact ⟨kept2_to_below HBY8.out.2.2.1 h HBY8.out.2.2.2 (by omega) (by omega), by rw [HRN.out]; rfl⟩
                  | some r =>
                    have HOK8 := hid (rdKind_ok hrk HOK.out)
                    rw [hrk] at hp8
                    obtain ⟨rfl, vc', vl', hr8, hst8⟩ := kindPost_some hp8
                    obtain ⟨S', z', st2⟩ := r
                    have HR8 := hid hr8
                    have HST8 := hid hst8
                    have HRK := hid hrk
                    clear hr8 hst8 hp8 ht8 hrk ckk
                    go_wp2_with fail
                    refine Calls.mono (rsEnd HR8.out) ?_
                    rintro e w9 ⟨rfl, ho9⟩
                    have HST9 := hid (HST8.out.turn (Turn.grown ho9 (by simp) (F := [b])) (by simpa using hkbk) (by simpa using HST8.out.ne HR8.out.1 (fun cur e => by cases e) (fun cur e => by cases e)))
                    have HBY9 := hid (HBY8.out.turn (Turn.grown ho9 (by simp) (F := [b])) (by simp; exact ⟨hkw, Ne.symm hob, Ne.symm hkbb⟩))
                    clear ho9 HST6 HST8 HBY6 HBY8
                    by_cases hpe : pEnd x st2 = 0
                    · have HNX := hid (HG.out.symm.trans (HN.out (some (S', z')) (by refine Eq.trans HS.out ?_; rw [HRK.out]; exact if_pos hpe)))
                      rw [hpe]
                      go_wp2_with fail
                      refine Calls.mono (must_yes (by first | rfl | (simp; done) | (simp [hwz, hwi]; done) | (simp [hwz, hwi]; omega)) _) ?_
                      rintro e w10 ⟨rfl, rfl⟩
                      go_wp2_with fail
                      go_roundw
                      case rel => exact ⟨m + 1 + 1, S', z', vc', vl', by go_num, by omega, HST9.out, HBY9.out, HOK8.out, by rw [show decide (m + 1 + 1 = 0) = false by simp]; exact HNX.out.symm⟩
                      case measure => simp [intOf]; omega
                    · have HRN := hid (rd_none (HG.out.symm.trans (HN.out none (by refine Eq.trans HS.out ?_; rw [HRK.out]; exact if_neg hpe))))
                      have hpe1 : ((pEnd x st2 : Int) == 0) = false := by simp only [beq_eq_false_iff_ne, ne_eq]; omega
                      clear hpe
                      generalize pEnd x st2 = pe at *
                      go_wp2_with fail
                      refine Calls.mono (must_no (by first | exact hpe1 | rfl | (simp; done)) _) ?_
                      rintro e w10 ⟨rfl, rfl⟩
                      go_wp2_with fail
                      exact door_fault _ _ rfl rfl rfl _ (stCells_size S' z' vc' vl') HST9.out.1 _ HBY9.out.1 fun W' h => by show Below w.heap.size w W' ∧ ReadPost _ w.heap.size _ W'; rw [hkk]; exact ⟨kept2_to_below HBY9.out.2.2.1 h HBY9.out.2.2.2 (by omega) (by omega), by rw [HRN.out]; rfl⟩
              · as_aux_lemma =>
                  have hiz1 : ¬ ((S.image.length : Int) = (z : Int)) := by omega
                  go_wp2_with fail
                  refine Calls.mono (must_no (by first | rfl | (simp; done) | (simp [hwz, hwi]; done) | (simp [hwz, hwi]; omega)) _) ?_
                  rintro e w7 ⟨rfl, rfl⟩
                  have HRN := hid (rd_none (HG.out.symm.trans (HN.out none (rdStep_bad HE.out (by simp [*])))))
                  go_wp2_with fail
                  exact door_fault _ _ rfl rfl rfl _ (stCells_size S z vc vl) HST6.out.1 _ HBY6.out.1 fun W' h => by show Below w.heap.size w W' ∧ ReadPost _ w.heap.size _ W'; rw [hkk]; exact ⟨kept2_to_below HBY6.out.2.2.1 h HBY6.out.2.2.2 (by omega) (by omega), by rw [HRN.out]; rfl⟩
      · obtain rfl : q = xs.length := by omega
        have HE : Hid (rdGo true (Js.zero, 0) xs = some (S, z)) := by rw [← HG.out, List.drop_length]; rfl
        have c7 : wr.cell? ⟨k, 7, none⟩ = some (.string (str S.image)) := cell_in HST.out.1 7 _ rfl
        have c8 : wr.cell? ⟨k, 8, none⟩ = some (.int .u64 z) := cell_in HST.out.1 8 _ rfl
        have him : (str S.image).size = S.image.length := str_size _
        have hwz : IntKind.u64.wrap (z : Int) = (z : Int) := by have h1 := HOK.out.2.1; rw [IntKind.wrap_u64]; omega
        have hwi : IntKind.u64.wrap (S.image.length : Int) = (S.image.length : Int) := by have h1 := HOK.out.2.1; have h2 := HOK.out.2.2.1; rw [IntKind.wrap_u64]; omega
        by_cases hiz : S.image.length = z
        · as_aux_lemma =>
            have hiz1 : (S.image.length : Int) = (z : Int) := by omega
            have HRD := hid (show rd xs = some S by unfold rd; rw [if_neg hx0, HE.out]; exact if_pos hiz)
            clear HE hiz
            go_wp2_with fail
            refine Calls.mono (must_yes (by first | rfl | (simp; done) | (simp [hwz, hwi]; done) | (simp [hwz, hwi]; omega)) _) ?_
            rintro e w7 ⟨rfl, rfl⟩
            obtain ⟨ac, cc, rfl⟩ := own_form HST.out.2.1
            obtain ⟨al, cl, rfl⟩ := own_form HST.out.2.2
            have hko : o ≠ k := by omega
            have ho2 : (w7.setRow k (stCells S z (.slice ac S.log.conf.length cc) (.slice al S.log.l.length cl))).heap[o]? = some (.cells #[.bool false] 4) := (setRow_other _ k o _ hko).trans HBY1.out.1
            have co := cell_in ho2 0 _ rfl
            have fo := free_in ho2 0
            have HH2 := hid ho2
            have HH3 := hid (setRow_heap w7 k (stCells S z (.slice ac S.log.conf.length cc) (.slice al S.log.l.length cl)) (stCells S z (.slice ac S.log.conf.length cc) (.slice al S.log.l.length cl)) _ (0, 0) HST.out.1)
            clear c7 c8 ho2
            go_wp2_with (first
              | (refine wpList_load_row rfl 98 _ rfl k (by rfl) 98 (stCells S z _ _) (0, 0) _ HST.out.1 Tryz.underlying98 rfl sizeSt ?_)
              | (refine wpList_store_row rfl 98 _ _ rfl k (stCells S z (.slice ac S.log.conf.length cc) (.slice al S.log.l.length cl)) (by rfl) (by rfl) 98 _ HST.out.1 sizeSt rfl (by simp [stCells, Value.oneCell']) ?_))
            have hK2 : Kept2 k o w7 ((w7.setRow k (stCells S z (.slice ac S.log.conf.length cc) (.slice al S.log.l.length cl))).setCell ⟨o, 0, none⟩ (.bool true)) := Kept2.set (kept2_swap ((Kept2.refl o k w7).row _)) 0 _
            have n1 := HST.out.ne HST.out.1 (fun cur e => by cases e) (fun cur e => by cases e)
            have n2 := HST.out.ne HBY1.out.1 (fun cur e => by cases e) (fun cur e => by cases e)
            refine door_good _ _ rfl rfl rfl (stCells S z (.slice ac S.log.conf.length cc) (.slice al S.log.l.length cl)) rfl ((Below.heap_setCell _ _ _ _ hko.symm).trans HH3.out) true (heap_set HH2.out 0 (.bool true)) ?_
            show Below w.heap.size w _ ∧ ReadPost _ w.heap.size _ _
            rw [hkk, HRD.out]
            exact ⟨kept2_to_below HBY1.out.2.2.1 hK2 HBY1.out.2.2.2 (by omega) (by omega), z, _, _, HOK.out.2.1, rfl, row_kept2 HST.out.2.1 hK2 n1.1 n2.1, row_kept2 HST.out.2.2 hK2 n1.2 n2.2⟩
        · as_aux_lemma =>
            have hiz1 : ¬ ((S.image.length : Int) = (z : Int)) := by omega
            have HRN := hid (show rd xs = none by unfold rd; rw [if_neg hx0, HE.out]; exact if_neg hiz)
            clear HE hiz
            go_wp2_with fail
            refine Calls.mono (must_no (by first | rfl | (simp; done) | (simp [hwz, hwi]; done) | (simp [hwz, hwi]; omega)) _) ?_
            rintro e w7 ⟨rfl, rfl⟩
            go_wp2_with fail
            exact door_fault _ _ rfl rfl rfl _ (stCells_size S z vc vl) HST.out.1 _ HBY1.out.1 fun W' h => by show Below w.heap.size w W' ∧ ReadPost _ w.heap.size _ W'; rw [hkk]; exact ⟨kept2_to_below HBY1.out.2.2.1 h HBY1.out.2.2.2 (by omega) (by omega), by rw [HRN.out]; rfl⟩
end Go.Proofs.YtmehcogaopackaaGreat
