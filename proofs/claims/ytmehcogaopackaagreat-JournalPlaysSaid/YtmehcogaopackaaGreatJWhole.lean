/-
  The file of a state; the walk of whole.
-/
import Derived.Deep.RegionLaw
import Derived.Test.YtmehcogaopackaaGreatGE
import Derived.Test.YtmehcogaopackaaGreatJDisk2
import Derived.Test.YtmehcogaopackaaGreatGF
namespace Go.Proofs.YtmehcogaopackaaGreat
open Go.RowKit
set_option linter.unusedVariables false
set_option linter.unusedSimpArgs false
def chunksF : Nat → Bytes → List Bytes
  | 0, _ => []
  | f + 1, b => if b = [] then [] else b.take 4096 :: chunksF f (b.drop 4096)
/-- an image, cut into pieces -/
def chunks (b : Bytes) : List Bytes := chunksF b.length b
theorem chunksF_enough : ∀ (f g : Nat) (b : Bytes), b.length ≤ f → b.length ≤ g → chunksF f b = chunksF g b
  | 0, 0, _, _, _ => rfl
  | 0, g + 1, b, h, _ => by
    have : b = [] := List.eq_nil_of_length_eq_zero (by omega)
    subst this
    simp [chunksF]
  | f + 1, 0, b, _, h => by
    have : b = [] := List.eq_nil_of_length_eq_zero (by omega)
    subst this
    simp [chunksF]
  | f + 1, g + 1, b, h1, h2 => by
    by_cases hb : b = []
    · simp [chunksF, hb]
    · have hl : (b.drop 4096).length ≤ b.length - 1 := by
        have : 0 < b.length := List.length_pos_iff.2 hb
        rw [List.length_drop]; omega
      simp only [chunksF, if_neg hb]
      rw [chunksF_enough f g (b.drop 4096) (by omega) (by omega)]
theorem chunks_nil : chunks [] = [] := rfl
theorem chunks_step {b : Bytes} (hb : b ≠ []) : chunks b = b.take 4096 :: chunks (b.drop 4096) := by
  have hp : 0 < b.length := List.length_pos_iff.2 hb
  unfold chunks
  obtain ⟨n, hn⟩ : ∃ n, b.length = n + 1 := ⟨b.length - 1, by omega⟩
  rw [hn]
  simp only [chunksF, if_neg hb]
  rw [chunksF_enough n (b.drop 4096).length (b.drop 4096) (by rw [List.length_drop]; omega) (Nat.le_refl _)]
theorem chunks_len : ∀ (n : Nat) (b : Bytes), b.length ≤ n → (chunks b).length ≤ b.length
  | 0, b, h => by
    have : b = [] := List.eq_nil_of_length_eq_zero (by omega)
    subst this
    simp [chunks_nil]
  | n + 1, b, h => by
    by_cases hb : b = []
    · subst hb; simp [chunks_nil]
    · have hp : 0 < b.length := List.length_pos_iff.2 hb
      have := chunks_len n (b.drop 4096) (by rw [List.length_drop]; omega)
      rw [chunks_step hb, List.length_cons]
      rw [List.length_drop] at this
      omega
def pieceRec (p : Bytes) : Bytes := frame (num 2 ++ text p)
def entRecs : Nat → List En → List Bytes
  | _, [] => []
  | i, e :: r => entRec i e :: entRecs (i + 1) r
def baseBody (g : Lg) (n : Nat) : Bytes := num 1 ++ num g.base ++ num g.bterm ++ nums (g.conf.map Int.toNat) ++ num n
/-- the frames of a state's file -/
def fileL (S : Js) : List Bytes := frame (baseBody S.log S.image.length) :: ((chunks S.image).map pieceRec ++ (hardRec S.hard :: entRecs (S.log.base + 1) S.log.l))
def fileB (S : Js) : Bytes := (fileL S).flatten
theorem entRecs_snoc : ∀ (l : List En) (i : Nat) (e : En), entRecs i (l ++ [e]) = entRecs i l ++ [entRec (i + l.length) e]
  | [], i, e => rfl
  | a :: l, i, e => by
    rw [List.cons_append, entRecs, entRecs_snoc l (i + 1) e, entRecs, List.cons_append]
    simp only [List.length_cons]
    rw [show i + 1 + l.length = i + (l.length + 1) by omega]
theorem join_nil : ∀ xs : List Bytes, Lib.join xs [] = xs.flatten
  | [] => rfl
  | [x] => by simp [Lib.join]
  | x :: y :: r => by
    have := join_nil (y :: r)
    simp [Lib.join] at this ⊢
    exact this
theorem chunks_le : ∀ (n : Nat) (b : Bytes), b.length ≤ n → ∀ p ∈ chunks b, p.length ≤ 4096
  | 0, b, h => by
    have : b = [] := List.eq_nil_of_length_eq_zero (by omega)
    subst this
    simp [chunks_nil]
  | n + 1, b, h => by
    by_cases hb : b = []
    · subst hb; simp [chunks_nil]
    · have hp : 0 < b.length := List.length_pos_iff.2 hb
      have := chunks_le n (b.drop 4096) (by rw [List.length_drop]; omega)
      rw [chunks_step hb]
      intro p hp
      rcases List.mem_cons.1 hp with rfl | hp
      · rw [List.length_take]; omega
      · exact this p hp
theorem pieceRec_len (p : Bytes) (h : p.length ≤ 4096) : (pieceRec p).length ≤ 70000 := by
  unfold pieceRec
  rw [frame_length, List.length_append]
  have := num_len 2
  have := text_len p
  omega
theorem hardRec_len (h : Hd) : (hardRec h).length ≤ 70000 := by
  unfold hardRec hardBody
  rw [frame_length, List.length_append, List.length_append, List.length_append]
  have := num_len 3
  have := num_len h.term
  have := num_len h.vote.toNat
  have := num_len h.life
  omega
theorem entRec_len (i : Nat) (e : En) (h : e.data.length ≤ 2048) : (entRec i e).length ≤ 70000 := by
  unfold entRec entBody
  rw [frame_length, List.length_append, List.length_append, List.length_append, List.length_append]
  have := num_len 4
  have := num_len i
  have := num_len e.term
  have := num_len e.kind.toNat
  have := text_len e.data
  omega
theorem entRecs_le : ∀ (l : List En) (i : Nat), (∀ e ∈ l, e.data.length ≤ 2048) → ∀ x ∈ entRecs i l, x.length ≤ 70000
  | [], _, _ => by simp [entRecs]
  | e :: l, i, h => by
    intro x hx
    rcases List.mem_cons.1 hx with rfl | hx
    · exact entRec_len i e (h e (List.mem_cons_self ..))
    · exact entRecs_le l (i + 1) (fun e he => h e (List.mem_cons_of_mem _ he)) x hx
theorem flatten_le (B : Nat) : ∀ (xs : List Bytes), (∀ x ∈ xs, x.length ≤ B) → xs.flatten.length ≤ B * xs.length
  | [], _ => by simp
  | x :: xs, h => by
    have h1 := flatten_le B xs (fun y hy => h y (List.mem_cons_of_mem _ hy))
    have h2 := h x (List.mem_cons_self ..)
    simp only [List.flatten_cons, List.length_append, List.length_cons, Nat.mul_add, Nat.mul_one]
    omega
theorem mayEn_data {e : En} (h : mayEn e = true) : e.data.length ≤ 2048 := by
  unfold mayEn at h
  simp only [Bool.and_eq_true, decide_eq_true_eq] at h
  exact h.2.2
theorem strs_back (fs : List Bytes) : (fs.map str).map (fun x => x.data.toList) = fs := by
  rw [List.map_map]
  have : ((fun (x : ByteArray) => x.data.toList) ∘ str) = id := by funext l; rfl
  rw [this, List.map_id]
def strLen : Value → Nat
  | .string s => s.size
  | _ => 0
/-- two boxes, and the world below -/
def ZC (B k g : Nat) (w : World) (o1 o2 : Obj) (W : World) : Prop := W.heap[k]? = some o1 ∧ W.heap[g]? = some o2 ∧ Below B w W ∧ B ≤ W.heap.size
theorem ZC.below {B k g : Nat} {w W W' : World} {o1 o2 : Obj} (h : ZC B k g w o1 o2 W) (hb : Below W.heap.size W W') : ZC B k g w o1 o2 W' :=
  ⟨(hb.block k (Array.getElem?_eq_some_iff.1 h.1).1).trans h.1, (hb.block g (Array.getElem?_eq_some_iff.1 h.2.1).1).trans h.2.1, h.2.2.1.trans (hb.mono h.2.2.2), Nat.le_trans h.2.2.2 hb.size⟩
theorem ZC.grown {B k g : Nat} {w W W' : World} {o1 o2 : Obj} {row : Option Nat} (h : ZC B k g w o1 o2 W) (hg : W.grownBy W' row) (h1 : some k ≠ row) (h2 : some g ≠ row) (hB : ∀ j, row = some j → B ≤ j) : ZC B k g w o1 o2 W' :=
  ⟨(hg.block k (Array.getElem?_eq_some_iff.1 h.1).1 h1).trans h.1, (hg.block g (Array.getElem?_eq_some_iff.1 h.2.1).1 h2).trans h.2.1, h.2.2.1.grown hg h.2.2.2 hB, Nat.le_trans h.2.2.2 hg.size⟩
/-- a call of a Go function of one argument, as one step of a region that draws its order -/
theorem step_call1 {P : Program} {ops : Array Oper} {o : Oper} {a : Act} {w : World} {K : Act → World → Prop} {Q : Exit → Act → World → Prop} {E : Prop}
    (hg : o.guard = none) (f : FuncId) (fn : Func) (hfn : P.funcs[f]? = some fn) (hname : fn.name ≠ "runtime.NumGoroutine") (hbody : fn.body ≠ none) (x : Operand) (ts : Array TypeId) (hop : o.op = Op.call { callee := Callee.value (Operand.func f), args := #[x], argTypes := ts }) (u v : Value) (hx : a.eval x = u) (R : World → Prop)
    (h : Calls P f #[u] w (fun e w' => e = .returned v ∧ R w')) (hK : ∀ w', R w' → K (a.put o.dst v) w') :
    if Region.wanted o (yielded ops a.tmps) = true then Oper.wp P o a w K Q else E := by
  have hw : Region.wanted o (yielded ops a.tmps) = true := by simp [Region.wanted, hg]
  rw [if_pos hw]
  unfold Oper.wp
  have hf : a.eval (.func f) = .func (.func f) #[] #[] := rfl
  simp [execOp, hop, resolve, invoke, hx, hf, Result.andThen, Deferred.ofValue, callFunc, Oper.upon, hfn, hname, hbody]
  refine Calls.mono h fun e w' he => ?_
  obtain ⟨rfl, hr⟩ := he
  exact hK w' hr
theorem grown_below {w w' : World} (h : Below w.heap.size w w') : w.grownBy w' none := ⟨h.os, h.tape, h.output, h.size, fun k hk _ => h.block k hk⟩
set_option maxRecDepth 100000 in
set_option maxHeartbeats 8000000 in
theorem whole_at (term vote life base bterm sz : Nat) (ns : List Nat) (l : List En) (image : Bytes) (S : Js) (hS : Hid (S = ⟨⟨term, vote, life⟩, ⟨base, bterm, ns.map fun (n : Nat) => (n : Int), l⟩, image⟩)) (vc vl : Value) (w : World)
    (hc : Cells [] w vc ns.length (intVals (ns.map fun (n : Nat) => (n : Int)))) (hl : Cells [] w vl l.length (enVals l)) (ht : term < top64) (hv : vote < 1000) (hlf : life < top64) (hb : base ≤ 4611686018427387904) (hbt : bterm < top64) (hn : ns.length ≤ 5) (hns : ∀ n ∈ ns, n < 1000)
    (hll : l.length ≤ 1000000) (hle : ∀ e ∈ l, e.term < top64 ∧ mayEn e = true) (him : image.length ≤ 262144) :
    Calls Tryz.prog 43 #[.agg #[.int .u64 term, .int .i64 (vote : Int), .int .u64 life, .int .u64 base, .int .u64 bterm, vc, vl, .string (str image), .int .u64 sz]] w fun e w' => e = .returned (.string (str (fileB S))) ∧ Below w.heap.size w w' := by
  obtain ⟨ac, cc, rfl⟩ := hc.form
  obtain ⟨al, cl, rfl⟩ := hl.form
  have hB2 : Below w.heap.size w ((w.alloc (.cells #[.int .u64 term, .int .i64 (vote : Int), .int .u64 life, .int .u64 base, .int .u64 bterm, .slice ac ns.length cc, .slice al l.length cl, .string (str image), .int .u64 sz] 98)).alloc (.cells #[.int .u64 base, .int .u64 bterm, .slice ac ns.length cc, .slice al l.length cl] 49)) := ((Below.refl _ _).alloc (Nat.le_refl _) _).alloc (by simp) _
  have hk1 := (heap_alloc_old (w.alloc (.cells #[.int .u64 term, .int .i64 (vote : Int), .int .u64 life, .int .u64 base, .int .u64 bterm, .slice ac ns.length cc, .slice al l.length cl, .string (str image), .int .u64 sz] 98)) (.cells #[.int .u64 base, .int .u64 bterm, .slice ac ns.length cc, .slice al l.length cl] 49) (by simp)).trans (heap_alloc_new w (.cells #[.int .u64 term, .int .i64 (vote : Int), .int .u64 life, .int .u64 base, .int .u64 bterm, .slice ac ns.length cc, .slice al l.length cl, .string (str image), .int .u64 sz] 98))
  have hk2 := heap_alloc_new (w.alloc (.cells #[.int .u64 term, .int .i64 (vote : Int), .int .u64 life, .int .u64 base, .int .u64 bterm, .slice ac ns.length cc, .slice al l.length cl, .string (str image), .int .u64 sz] 98)) (.cells #[.int .u64 base, .int .u64 bterm, .slice ac ns.length cc, .slice al l.length cl] 49)
  rw [World.size_alloc] at hk2
  have HZ0 : Hid (ZC w.heap.size w.heap.size (w.heap.size + 1) w (.cells #[.int .u64 term, .int .i64 (vote : Int), .int .u64 life, .int .u64 base, .int .u64 bterm, .slice ac ns.length cc, .slice al l.length cl, .string (str image), .int .u64 sz] 98) (.cells #[.int .u64 base, .int .u64 bterm, .slice ac ns.length cc, .slice al l.length cl] 49) ((w.alloc (.cells #[.int .u64 term, .int .i64 (vote : Int), .int .u64 life, .int .u64 base, .int .u64 bterm, .slice ac ns.length cc, .slice al l.length cl, .string (str image), .int .u64 sz] 98)).alloc (.cells #[.int .u64 base, .int .u64 bterm, .slice ac ns.length cc, .slice al l.length cl] 49))) := ⟨hk1, hk2, hB2, hB2.size⟩
  have HC := hid hc
  have HL := hid hl
  have HNS := hid hns
  have HLE := hid hle
  have hnl : (nums ns).length ≤ 10 + 10 * ns.length := by
    unfold nums
    rw [List.length_append]
    have := num_len ns.length
    have := flat_len ns
    omega
  clear hc hl hns hle hB2 hk1 hk2
  go_enter Tryz.func43, Tryz.ntmps43
  go_wp2_with fail
  generalize (w.alloc (.cells #[.int .u64 term, .int .i64 (vote : Int), .int .u64 life, .int .u64 base, .int .u64 bterm, .slice ac ns.length cc, .slice al l.length cl, .string (str image), .int .u64 sz] 98)).alloc (.cells #[.int .u64 base, .int .u64 bterm, .slice ac ns.length cc, .slice al l.length cl] 49) = W0 at HZ0 ⊢
  generalize hge : w.heap.size + 1 = g at HZ0 ⊢
  have hkg : w.heap.size ≤ g := by omega
  clear hge
  have HK0 : Hid (∃ k, k = w.heap.size ∧ ZC w.heap.size k g w (.cells #[.int .u64 term, .int .i64 (vote : Int), .int .u64 life, .int .u64 base, .int .u64 bterm, .slice ac ns.length cc, .slice al l.length cl, .string (str image), .int .u64 sz] 98) (.cells #[.int .u64 base, .int .u64 bterm, .slice ac ns.length cc, .slice al l.length cl] 49) W0) := ⟨_, rfl, HZ0.out⟩
  generalize hke : w.heap.size = k at HZ0 ⊢
  have hkk : w.heap.size ≤ k := by omega
  have hZ1 : ZC w.heap.size k g w (.cells #[.int .u64 term, .int .i64 (vote : Int), .int .u64 life, .int .u64 base, .int .u64 bterm, .slice ac ns.length cc, .slice al l.length cl, .string (str image), .int .u64 sz] 98) (.cells #[.int .u64 base, .int .u64 bterm, .slice ac ns.length cc, .slice al l.length cl] 49) W0.drew := by
    have h := HK0.out
    rw [hke] at h
    obtain ⟨k', hk', h⟩ := h
    subst hk'
    obtain ⟨z1, z2, z3, z4⟩ := HZ0.out
    rw [← hke] at z3 z4
    exact ⟨z1, z2, ⟨z3.os, z3.tape, z3.output, z3.size, z3.block⟩, z4⟩
  clear hke HZ0 HK0
  have hw1 : IntKind.u64.wrap (image.length : Int) = (image.length : Int) := by rw [IntKind.wrap_u64]; omega
  have ti : image.length < top64 := by unfold top64; omega
  have tb : base < top64 := by unfold top64; omega
  have hzi : (str image).size = image.length := str_size _
  have ln0 : (num 1).length ≤ 10 := num_len _
  have ln1 : (num base).length ≤ 10 := num_len _
  have ln2 : (num bterm).length ≤ 10 := num_len _
  have ln3 : (num image.length).length ≤ 10 := num_len _
  have sz0 : (str (num 1)).size = (num 1).length := str_size _
  have sz1 : (str (num base)).size = (num base).length := str_size _
  have sz2 : (str (num bterm)).size = (num bterm).length := str_size _
  have sz3 : (str (num image.length)).size = (num image.length).length := str_size _
  have szn : (str (nums ns)).size = (nums ns).length := str_size _
  generalize Ae0 : num 1 ++ num base = A0 at *
  have As0 : str (num 1) ++ str (num base) = str A0 := by rw [str_append, Ae0]
  have Ab0 : A0.length ≤ 5100 := by rw [← Ae0, List.length_append]; omega
  have An0 : ¬ (9223372036854775807 < (num 1).length + (num base).length) := by omega
  have Az0 : (str A0).size = A0.length := str_size _
  generalize Ae1 : A0 ++ num bterm = A1 at *
  have As1 : str (A0) ++ str (num bterm) = str A1 := by rw [str_append, Ae1]
  have Ab1 : A1.length ≤ 10100 := by rw [← Ae1, List.length_append]; omega
  have An1 : ¬ (9223372036854775807 < (A0).length + (num bterm).length) := by omega
  have Az1 : (str A1).size = A1.length := str_size _
  generalize Ae2 : A1 ++ nums ns = A2 at *
  have As2 : str (A1) ++ str (nums ns) = str A2 := by rw [str_append, Ae2]
  have Ab2 : A2.length ≤ 15100 := by rw [← Ae2, List.length_append]; omega
  have An2 : ¬ (9223372036854775807 < (A1).length + (nums ns).length) := by omega
  have Az2 : (str A2).size = A2.length := str_size _
  generalize Ae3 : A2 ++ num image.length = A3 at *
  have As3 : str (A2) ++ str (num image.length) = str A3 := by rw [str_append, Ae3]
  have Ab3 : A3.length ≤ 20100 := by rw [← Ae3, List.length_append]; omega
  have An3 : ¬ (9223372036854775807 < (A2).length + (num image.length).length) := by omega
  have Az3 : (str A3).size = A3.length := str_size _
  have HBL := hid (show A3.length ≤ 65536 by omega)
  have HA := hid (show frame A3 = frame (baseBody ⟨base, bterm, ns.map fun (n : Nat) => (n : Int), l⟩ image.length) by
    unfold baseBody
    rw [← Ae3, ← Ae2, ← Ae1, ← Ae0]
    simp only [List.map_map]
    have : (Int.toNat ∘ fun (n : Nat) => (n : Int)) = id := by funext n; simp
    rw [this, List.map_id])
  clear Ae0 Ae1 Ae2 Ae3
  have HCO : Hid (∀ W : World, ZC w.heap.size k g w (.cells #[.int .u64 term, .int .i64 (vote : Int), .int .u64 life, .int .u64 base, .int .u64 bterm, .slice ac ns.length cc, .slice al l.length cl, .string (str image), .int .u64 sz] 98) (.cells #[.int .u64 base, .int .u64 bterm, .slice ac ns.length cc, .slice al l.length cl] 49) W → W.cell? ⟨g, 0, none⟩ = some (.int .u64 base) ∧ W.cell? ⟨g, 1, none⟩ = some (.int .u64 bterm) ∧ W.cell? ⟨g, 2, none⟩ = some (.slice ac ns.length cc) ∧ W.cell? ⟨k, 7, none⟩ = some (.string (str image))) := fun W h0 => by have h := h0.2.1; exact ⟨cell_in h 0 _ rfl, cell_in h 1 _ rfl, cell_in h 2 _ rfl, cell_in h0.1 7 _ rfl⟩
  have HCC : Hid (∀ W : World, ZC w.heap.size k g w (.cells #[.int .u64 term, .int .i64 (vote : Int), .int .u64 life, .int .u64 base, .int .u64 bterm, .slice ac ns.length cc, .slice al l.length cl, .string (str image), .int .u64 sz] 98) (.cells #[.int .u64 base, .int .u64 bterm, .slice ac ns.length cc, .slice al l.length cl] 49) W → Cells [] W (.slice ac ns.length cc) ns.length (intVals (ns.map fun (n : Nat) => (n : Int)))) := fun W h0 => HC.out.kept (fun j hj _ => h0.2.2.1.block j hj)
  go_region_held3 (fun W => W.cell? ⟨g, 0, none⟩ = some (.int .u64 base) ∧ W.cell? ⟨g, 1, none⟩ = some (.int .u64 bterm) ∧ W.cell? ⟨g, 2, none⟩ = some (.slice ac ns.length cc) ∧ W.cell? ⟨k, 7, none⟩ = some (.string (str image))) (first | exact HCO.out _ (by assumption) | exact HCO.out _ (ZC.below (by assumption) ((Below.refl _ _).alloc (Nat.le_refl _) _)))
    (first
    | (go_at_call 74; (with_reducible refine Calls.mono (numL1 _) ?_); rintro e w' ⟨rfl, hb'⟩; have hZ' := ZC.below (by assumption) hb'; clear hb')
    | (go_at_call 74; (with_reducible refine Calls.mono (num_any _ (by first | assumption | (unfold top64; omega)) _) ?_); rintro e w' ⟨rfl, hb'⟩; have hZ' := ZC.below (by assumption) hb'; clear hb')
    | (go_at_call 75; refine Calls.mono (numbers_any ns _ [] _ (HCC.out _ (by assumption)) (by omega) (fun n hn => by have := HNS.out n hn; omega)) ?_; rintro e w' ⟨rfl, hb'⟩; have hZ' := ZC.below (by assumption) hb'; clear hb')
    | (go_at_call 73; refine Calls.mono (framed_any _ HBL.out _) ?_; rintro e wf ⟨rfl, hb'⟩; have hZf := ZC.below (by assumption) hb'; clear hb'))
  have hOW := World.ownsRow_lit (base := w.heap.size) (e := 9) (size := 1) wf #[.string (str (frame A3))] 1 (hZf.2.2.2) (by decide) rfl
  have hZL := ZC.below hZf ((Below.refl _ _).alloc (Nat.le_refl _) (.cells #[.string (str (frame A3))] 9))
  have hfl : (frame A3).length ≤ 70000 := by rw [frame_length]; have := HBL.out; omega
  rw [HA.out] at *
  generalize hb0 : frame (baseBody ⟨base, bterm, ns.map fun (n : Nat) => (n : Int), l⟩ image.length) = b0 at *
  have HB0 := hid hb0
  clear hb0 HA HBL HCO HCC As0 Ab0 An0 Az0 As1 Ab1 An1 Az1 As2 Ab2 An2 Az2 As3 Ab3 An3 Az3 sz0 sz1 sz2 sz3 szn
  have c7 := cell_in hZL.1 7 _ rfl
  generalize wf.alloc (.cells #[.string (str b0)] 9) = wl at *
  have hW1 : wl.ownsRow w.heap.size 9 1 (.slice (some ⟨wf.heap.size, 0, none⟩) 1 1) (1 + ([] : List Bytes).length) (strVals (b0 :: ([] : List Bytes).map pieceRec)) := hOW
  clear hOW
  have HW1 := hid hW1
  have HZL := hid hZL
  clear hW1 hZL hZf
  have HCL := hid (chunks_len image.length image (Nat.le_refl _))
  obtain ⟨i0, hi, hz0, hz1, hz2⟩ := info_parts infoString
  go_wp2_with fail
  go_loopw [4, 5, 6] (fun vo vp _ wr => ∃ (ds : List Bytes) (r : Bytes), vp = .string (str r) ∧ Hid (chunks image = ds ++ chunks r) ∧ r.length ≤ 262144 ∧ wr.ownsRow w.heap.size 9 1 vo (1 + ds.length) (strVals (b0 :: ds.map pieceRec)) ∧ ZC w.heap.size k g w (.cells #[.int .u64 term, .int .i64 (vote : Int), .int .u64 life, .int .u64 base, .int .u64 bterm, .slice ac ns.length cc, .slice al l.length cl, .string (str image), .int .u64 sz] 98) (.cells #[.int .u64 base, .int .u64 bterm, .slice ac ns.length cc, .slice al l.length cl] 49) wr) (fun _ vp _ _ => strLen vp)
  case atStart => exact ⟨[], image, rfl, (show chunks image = [] ++ chunks image from rfl), him, HW1.out, HZL.out⟩
  case round =>
    obtain ⟨ds, r, rfl, HD, hrl, ho, hZ⟩ := hrel
    clear c7
    have hzr : (str r).size = r.length := str_size _
    have hte : (str r).toList = r := by rw [ByteArray.toList_eq]; rfl
    have HDL := hid (show ds.length ≤ 262144 by have := HCL.out; have h2 := congrArg List.length HD.out; rw [List.length_append] at h2; omega)
    by_cases hr0 : r = []
    · obtain rfl : r = [] := hr0
      have hD : chunks image = ds := by have := HD.out; rw [chunks_nil, List.append_nil] at this; exact this
      rw [← hD] at ho HDL
      have hemp : (str []).toList.isEmpty = true := by rw [hte]; rfl
      clear hD HD hte hzr hrl HW1 HZL
      have hds := HDL.out
      have HHR := hid (show str (frame (num 3 ++ num term ++ num vote ++ num life)) = str (hardRec ⟨term, (vote : Int), life⟩) by unfold hardRec hardBody; simp)
      have c0 := cell_in hZ.1 0 _ rfl
      have c1 := cell_in hZ.1 1 _ rfl
      have c2 := cell_in hZ.1 2 _ rfl
      have HZ := hid hZ
      have HO := hid ho
      clear hZ ho
      go_wp2_with fail
      refine Calls.mono (hard_at term vote life ht hv hlf _) ?_
      rintro e w6 ⟨rfl, hb6⟩
      have HZ6 := hid (HZ.out.below hb6)
      have HO6 := hid (HO.out.kept (grown_below hb6) (by cases hv : Value.ownBlock _ <;> simp))
      rw [HHR.out]
      generalize hhr : hardRec ⟨term, (vote : Int), life⟩ = hr
      have HHR2 := hid hhr
      clear hb6 HZ HO HHR hhr c0 c1 c2 hemp
      have hB6 := HZ6.out.2.2.2
      go_wp2_with (at_builtin; refine wpList_append_own _ rfl _ _ 100 rfl w.heap.size 9 i0 (.string { data := #[] }) 1 16 Tryz.underlying100 hi hz0 hz1 hz2 rfl (by decide) _ _ _ rfl (HO6.out.alloc _) ⟨w6.heap.size, 0, none⟩ 1 1 [.string (str hr)] rfl rfl (cell_one_new _ _ _) (by simp [Value.oneCell']) (by unfold maxLen; omega) (by omega) (by rw [World.size_alloc]; omega) ?_; intro v' w7 hown' hgrow _; have hZA := ZC.below HZ6.out ((Below.refl _ _).alloc (Nat.le_refl _) (.cells #[.string (str hr)] 9)); have HOA := HO6.out.alloc (.cells #[.string (str hr)] 9); have hZ7 := hZA.grown hgrow (own_ne HOA hZA.1 (fun cur e => by cases e)) (own_ne HOA hZA.2.1 (fun cur e => by cases e)) (fun j hj => (HOA.lt j hj).1); have c3 := cell_in hZ7.2.1 3 _ rfl)
      generalize hcn : (chunks image).length = cn at *
      have HCN := hid hcn
      generalize hL1 : b0 :: (chunks image).map pieceRec ++ [hr] = L1
      have HL1 := hid hL1
      have HL1n := hid (show L1.length = cn + 2 by rw [← hL1]; simp [hcn])
      have hO7 : w7.ownsRow w.heap.size 9 1 v' (cn + 2 + ([] : List En).length) (strVals (L1 ++ entRecs (base + 1) [])) := by
        have e1 : 1 + cn + 1 = cn + 2 := by omega
        rw [e1] at hown'
        have e2 : strVals (L1 ++ entRecs (base + 1) []) = strVals (b0 :: (chunks image).map pieceRec) ++ [.string (str hr)] := by rw [← hL1]; unfold strVals; simp [entRecs]
        rw [e2]
        exact hown'
      have HO7 := hid hO7
      have HZ7 := hid hZ7
      clear hown' hgrow hZA HOA hO7 hZ7 hL1 hcn HO6 HZ6 hB6
      go_loopw [4, 7, 8, 61] (fun vo _ _ i wr => ∃ j : Nat, i = .int .i64 j ∧ j ≤ l.length ∧ wr.ownsRow w.heap.size 9 1 vo (cn + 2 + j) (strVals (L1 ++ entRecs (base + 1) (l.take j))) ∧ ZC w.heap.size k g w (.cells #[.int .u64 term, .int .i64 (vote : Int), .int .u64 life, .int .u64 base, .int .u64 bterm, .slice ac ns.length cc, .slice al l.length cl, .string (str image), .int .u64 sz] 98) (.cells #[.int .u64 base, .int .u64 bterm, .slice ac ns.length cc, .slice al l.length cl] 49) wr) (fun _ _ _ i _ => l.length - (intOf i).toNat)
      case atStart => exact ⟨0, rfl, Nat.zero_le _, HO7.out, HZ7.out⟩
      case round =>
        obtain ⟨j, rfl, hj, ho, hZ⟩ := hrel
        clear c3 HO7 HZ7
        by_cases hlt : j < l.length
        · obtain ⟨_, _, hcl⟩ := HL.out.at
          obtain ⟨b, off, rfl, hcell⟩ := hcl (by rw [enVals_len]; omega)
          have hx0 := hcell wr hZ.2.2.1 _ _ (enVals_at l j hlt).1
          have hx1 := hcell wr hZ.2.2.1 _ _ (enVals_at l j hlt).2.1
          have hx2 := hcell wr hZ.2.2.1 _ _ (enVals_at l j hlt).2.2
          rw [show off + (j * 3 + 1) = off + j * 3 + 1 by omega] at hx1
          rw [show off + (j * 3 + 2) = off + j * 3 + 2 by omega] at hx2
          have HTK := hid (show strVals (L1 ++ entRecs (base + 1) (l.take (j + 1))) = strVals (L1 ++ entRecs (base + 1) (l.take j)) ++ [.string (str (entRec (base + 1 + j) l[j]))] by
            rw [List.take_succ_eq_append_getElem hlt, entRecs_snoc, ← List.append_assoc, List.length_take, Nat.min_eq_left (by omega)]
            unfold strVals
            rw [List.map_append]
            rfl)
          obtain ⟨hte1, hme1⟩ := HLE.out _ (List.getElem_mem hlt)
          have HEA := hid (fun W => ent_any (base + 1 + j) l[j] (by unfold top64; omega) hte1 hme1 W)
          clear hcell hcl hte1 hme1
          generalize l[j] = e at *
          obtain ⟨et, ek, ed⟩ := e
          simp only at hx0 hx1 hx2 HEA
          have hwa : IntKind.u64.wrap ((base : Int) + 1) = ((base + 1 : Nat) : Int) := by rw [IntKind.wrap_u64]; omega
          have hwj : IntKind.u64.wrap (j : Int) = (j : Int) := by rw [IntKind.wrap_u64]; omega
          have hwb : IntKind.u64.wrap (((base + 1 : Nat) : Int) + (j : Int)) = ((base + 1 + j : Nat) : Int) := by rw [IntKind.wrap_u64]; omega
          have c0 := cell_in (ZC.below hZ ((Below.refl _ _).alloc (Nat.le_refl _) (.cells #[.int .u64 (et : Nat), .int .i64 ek, .string (str ed)] 116))).2.1 0 _ rfl
          have HZ := hid (ZC.below hZ ((Below.refl _ _).alloc (Nat.le_refl _) (.cells #[.int .u64 (et : Nat), .int .i64 ek, .string (str ed)] 116)))
          have HO := hid (ho.alloc (.cells #[.int .u64 (et : Nat), .int .i64 ek, .string (str ed)] 116))
          have hBw := hZ.2.2.2
          clear ho hZ
          go_wp2_with fail
          refine Calls.mono (HEA.out _) ?_
          rintro e w9 ⟨rfl, hb9⟩
          have HZ9 := hid (HZ.out.below hb9)
          have HO9 := hid (HO.out.kept (grown_below hb9) (by cases hv : Value.ownBlock _ <;> simp))
          generalize entRec (base + 1 + j) ⟨et, ek, ed⟩ = er at *
          have hB9 := HZ9.out.2.2.2
          clear hb9 HZ HO HEA c0 hx0 hx1 hx2
          go_wp2_with (at_builtin; refine wpList_append_own _ rfl _ _ 100 rfl w.heap.size 9 i0 (.string { data := #[] }) 1 16 Tryz.underlying100 hi hz0 hz1 hz2 rfl (by decide) _ _ _ rfl (HO9.out.alloc _) ⟨w9.heap.size, 0, none⟩ 1 1 [.string (str er)] rfl rfl (cell_one_new _ _ _) (by simp [Value.oneCell']) (by unfold maxLen; omega) (by omega) (by rw [World.size_alloc]; omega) ?_; intro v2 w10 hown2 hgrow2 _; have hZB := ZC.below HZ9.out ((Below.refl _ _).alloc (Nat.le_refl _) (.cells #[.string (str er)] 9)); have HOB := HO9.out.alloc (.cells #[.string (str er)] 9); have hZ10 := hZB.grown hgrow2 (own_ne HOB hZB.1 (fun cur e => by cases e)) (own_ne HOB hZB.2.1 (fun cur e => by cases e)) (fun j hj => (HOB.lt j hj).1))
          go_roundw
          case rel => exact ⟨j + 1, by go_num, by omega, by rw [HTK.out]; exact hown2, hZ10⟩
          case measure => simp [intOf]; omega
        · obtain rfl : j = l.length := by omega
          rw [List.take_length] at ho
          generalize hfs : L1 ++ entRecs (base + 1) l = fs at *
          have hfl2 : fs.length = cn + 2 + l.length := by have := ho.1; rw [Nat.mul_one] at this; rw [← this]; simp [strVals]
          have HF := hid (show fileB S = fs.flatten by
            rw [hS.out, ← hfs, ← HL1.out, ← HHR2.out, ← HB0.out]
            unfold fileB fileL
            simp)
          have HLN := hid (show fs.flatten.length ≤ 140737488355328 by
            have h1 := flatten_le 70000 fs (fun x hx => by
              rw [← hfs, ← HL1.out] at hx
              simp only [List.cons_append, List.mem_cons, List.mem_append, List.mem_map, List.not_mem_nil, or_false] at hx
              rcases hx with rfl | (⟨p, hp, rfl⟩ | rfl) | hx
              · exact hfl
              · exact pieceRec_len p (chunks_le image.length image (Nat.le_refl _) p hp)
              · rw [← HHR2.out]; exact hardRec_len _
              · exact entRecs_le l _ (fun e he => mayEn_data (HLE.out e he).2) x hx)
            omega)
          rcases ho.2 with ⟨_, hn0⟩ | ⟨g', cap', cur, rfl, hbg, hgg, hcap', _, hcs, htk⟩
          · omega
          have hjn := join_nil fs
          have HJ := hid (Tryz.strings_Join g' 0 cap' (fs.map str) { data := #[] } wr (fun j x hx => by
              rw [List.getElem?_map] at hx
              obtain ⟨f, hf, rfl⟩ := Option.map_eq_some_iff.1 hx
              have hjl : j < fs.length := (List.getElem?_eq_some_iff.1 hf).1
              refine cell_in hgg _ _ ?_
              rw [Nat.zero_add, ← Array.getElem?_toList]
              have e1 : (cur.toList.take ((cn + 2 + l.length) * 1))[j]? = some (.string (str f)) := by rw [htk]; unfold strVals; rw [List.getElem?_map, hf]; rfl
              rw [List.getElem?_take] at e1
              split at e1
              · exact e1
              · cases e1) (Array.getElem?_eq_some_iff.1 hgg).1 (by rw [List.length_map, hfl2]; omega) (by rw [List.length_map, hfl2]; exact hcap')
              (by rw [strs_back]; show (Lib.join fs []).length ≤ _; rw [join_nil]; exact HLN.out))
          rw [List.length_map, hfl2, strs_back] at HJ
          rw [show (({ data := #[] } : ByteArray).data.toList) = [] from rfl, hjn] at HJ
          have HZF := hid hZ
          clear ho hcs htk hgg hjn hfs hfl2 hZ
          go_wp2_with fail
          refine Calls.mono HJ.out ?_
          rintro e w11 ⟨rfl, hb11⟩
          go_wp2_with fail
          go_ret
          rw [HF.out]
          exact ⟨rfl, HZF.out.2.2.1.trans (hb11.mono HZF.out.2.2.2)⟩
    · have hemp : (str r).toList.isEmpty = false := by rw [hte]; cases r with | nil => exact absurd rfl hr0 | cons => rfl
      have HD2 := hid (show chunks image = (ds ++ [r.take 4096]) ++ chunks (r.drop 4096) by rw [HD.out, chunks_step hr0, List.append_assoc]; rfl)
      clear hte
      have htk : r.take 4096 ≠ [] := by
        intro e
        have h2 := congrArg List.length e
        have : 0 < r.length := List.length_pos_iff.2 hr0
        rw [List.length_take, List.length_nil] at h2
        omega
      have hpl : (r.take 4096).length ≤ 4096 := by rw [List.length_take]; omega
      have hdl : (r.drop 4096).length < r.length := by have : 0 < r.length := List.length_pos_iff.2 hr0; rw [List.length_drop]; omega
      have HSN := hid (show strVals (b0 :: (ds ++ [r.take 4096]).map pieceRec) = strVals (b0 :: ds.map pieceRec) ++ [.string (str (pieceRec (r.take 4096)))] by unfold strVals; simp)
      obtain ⟨m, hm1, hm2, hm3, hm4, hm5⟩ : ∃ m : Nat, m ≤ r.length ∧ m ≤ 4096 ∧ r.take m = r.take 4096 ∧ r.drop m = r.drop 4096 ∧ min ((r.length : Nat) : Int) 4096 = (m : Int) := by
        by_cases h4 : r.length ≤ 4096
        · exact ⟨r.length, Nat.le_refl _, h4, by rw [List.take_length, List.take_of_length_le h4], by rw [List.drop_length, List.drop_of_length_le h4], by omega⟩
        · exact ⟨4096, by omega, Nat.le_refl _, rfl, rfl, by omega⟩
      have hex : (str r).extract 0 m = str (r.take 4096) := by rw [extract_str, str_data, List.drop_zero, Nat.sub_zero, hm3]
      have hex2 : (str r).extract m r.length = str (r.drop 4096) := by rw [extract_str, str_data, ← hm4, List.take_of_length_le (by rw [List.length_drop]; omega)]
      clear hr0 htk
      have hdl2 : (str (r.drop 4096)).size < (str r).size := by rw [str_size, str_size]; exact hdl
      have hdl3 : (r.drop 4096).length ≤ 262144 := by omega
      have HPR := hid (show pieceRec (r.take 4096) = frame (num 2 ++ text (r.take 4096)) from rfl)
      generalize r.take 4096 = pc at *
      generalize r.drop 4096 = rd at *
      have HM := hid (And.intro hm3 hm4)
      clear hm3 hm4
      have ln30 := num_len 2
      have ln31 := text_len pc
      have sz30 : (str (num 2)).size = (num 2).length := str_size _
      have sz31 : (str (text pc)).size = (text pc).length := str_size _
      have hzp : (str pc).size = pc.length := str_size _
      generalize Be0 : num 2 ++ text pc = B0 at *
      have Bs0 : str (num 2) ++ str (text pc) = str B0 := by rw [str_append, Be0]
      have Bb0 : B0.length ≤ 5100 := by rw [← Be0, List.length_append]; omega
      have Bn0 : ¬ (9223372036854775807 < (num 2).length + (text pc).length) := by omega
      have Bz0 : (str B0).size = B0.length := str_size _
      have HPR2 := HPR
      have HBL := hid (show B0.length ≤ 65536 by omega)
      clear Be0
      have hds := HDL.out
      have HO := hid ho
      have hZd : ZC w.heap.size k g w (.cells #[.int .u64 term, .int .i64 (vote : Int), .int .u64 life, .int .u64 base, .int .u64 bterm, .slice ac ns.length cc, .slice al l.length cl, .string (str image), .int .u64 sz] 98) (.cells #[.int .u64 base, .int .u64 bterm, .slice ac ns.length cc, .slice al l.length cl] 49) wr.drew := ⟨hZ.1, hZ.2.1, hZ.2.2.1.drew, hZ.2.2.2⟩
      have hBs := hZ.2.2.2
      clear ho hZ
      go_wp2_with fail
      go_region_law (first
        | (refine step_call1 rfl 74 Tryz.f74 Tryz.func74 (by decide) (by intro h; cases h) (.const (.int .u64 2)) _ rfl (.int .u64 2) (.string (str (num 2))) rfl _ (numL2 _) ?_; intro w2 hb2; have hZ2 := hZd.below (by exact hb2))
        | (refine step_call1 rfl 76 Tryz.f76 Tryz.func76 (by decide) (by intro h; cases h) (.tmp 43) _ rfl (.string (str pc)) (.string (str (text pc))) (by simp [Act.eval, Act.put]) _ (text_any pc (by omega) _) ?_; intro w3 hb3; have hZ3 := hZ2.below (by exact hb3))
        | (refine step_call1 rfl 73 Tryz.f73 Tryz.func73 (by decide) (by intro h; cases h) (.tmp 45) _ rfl (.string (str B0)) (.string (str (frame B0))) (by simp [Act.eval, Act.put]) _ (framed_any _ HBL.out _) ?_; intro w4 hb4; have hZ4 := hZ3.below (by exact hb4); have HO4 := hid (HO.out.kept ((World.grownBy.trans (World.grownBy.trans (⟨hb2.os, hb2.tape, hb2.output, hb2.size, fun k hk _ => hb2.block k hk⟩ : World.grownBy wr w2 none) (grown_below hb3)) (grown_below hb4)) : World.grownBy wr w4 none) (by cases hv : Value.ownBlock _ <;> simp)))
        | (refine step_append_own rfl (.tmp 39) (.tmp 47) 100 rfl w.heap.size 9 i0 (.string { data := #[] }) 1 16 Tryz.underlying100 hi hz0 hz1 hz2 rfl (by decide) _ (1 + ds.length) (strVals (b0 :: ds.map pieceRec)) rfl (by exact HO4.out.alloc _) ⟨w4.heap.size, 0, none⟩ 1 1 [.string (str (frame B0))] (by simp [Act.eval, Act.put]) rfl (by exact cell_one_new _ _ _) (by simp [Value.oneCell']) (by unfold maxLen; omega) (by omega) (by exact Nat.le_trans hZ4.2.2.2 (by simp)) ?_; intro v' w5 hown' hgrow hloc))
      have hZA := ZC.below hZ4 ((Below.refl _ _).alloc (Nat.le_refl _) (.cells #[.string (str (frame B0))] 9))
      have HOA := HO4.out.alloc (.cells #[.string (str (frame B0))] 9)
      have hZ5 := hZA.grown (W' := w5) (row := _) ⟨hgrow.os, hgrow.tape, hgrow.output, hgrow.size, hgrow.block⟩ (own_ne HOA hZA.1 (fun cur e => by cases e)) (own_ne HOA hZA.2.1 (fun cur e => by cases e)) (fun j hj => (HOA.lt j hj).1)
      have HZ5 := hid hZ5
      have HO5 := hid hown'
      clear hZ5 hZA HOA hown' hgrow hloc hZ4 hZ3 hZ2 hZd hb2 hb3 hb4 HO4
      go_wp2_with fail
      try rw [hex2]
      go_roundw
      case rel =>
        refine ⟨ds ++ [pc], rd, rfl, HD2.out, hdl3, ?_, HZ5.out⟩
        rw [HSN.out, HPR2.out, List.length_append, ← Nat.add_assoc]
        exact HO5.out
      case measure => exact hdl2
end Go.Proofs.YtmehcogaopackaaGreat
