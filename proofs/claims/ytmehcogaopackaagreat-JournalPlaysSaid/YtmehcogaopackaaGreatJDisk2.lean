/-
  The walks of the disk's calls: Add, Put, Sync.
-/
import Derived.StillTailTactics
import Derived.Deep.RegionWith
import Derived.Deep.RegionLaw
import Derived.Maps.AppendAt
import Derived.Test.YtmehcogaopackaaGreatGE
namespace Go.Proofs.YtmehcogaopackaaGreat
open Go.RowKit Go.Maps Go.WideMaps
set_option linter.unusedVariables false
set_option linter.unusedSimpArgs false
theorem puts_any {W : World} {b : Nat} {o : Option Bytes} (h : MapAt W b o) (s : Bytes) (hs : s.length ≤ maxLen) (qn qs : Nat) (n : Int) (hn : W.heap[qn]? = some (.cells #[.string { data := #[108, 111, 103] }] 9)) (hq : W.heap[qs]? = some (.cells #[.string (str s)] 9)) :
    Calls Tryz.prog 32 #[.map (some b), .int .i64 n, .pointer (some ⟨qs, 0, none⟩), .pointer (some ⟨qn, 0, none⟩)] W fun e w' => e = .returned (.tuple #[]) ∧ MapAt w' b (some s) ∧ Turn [b] W w' := by
  have cn : W.cell? ⟨qn, 0, none⟩ = some (.string { data := #[108, 111, 103] }) := cell_in hn 0 _ rfl
  have cs : W.cell? ⟨qs, 0, none⟩ = some (.string (str s)) := cell_in hq 0 _ rfl
  obtain ⟨w1, hrun, hm, hg⟩ := h.store s hs
  have HM := hid hm
  have HT : Hid (Turn [b] W w1) := Turn.grown hg (by simp)
  clear hm hg hn hq h hs
  go_enter Tryz.func32, Tryz.ntmps32
  go_wp2_with fail
  go_end0
  exact ⟨rfl, HM.out, HT.out⟩
theorem take_le (s : Bytes) (k : Nat) : (s.take k).length ≤ s.length := by rw [List.length_take]; omega
set_option maxRecDepth 100000 in
theorem adds_any {W : World} {b : Nat} {o : Option Bytes} (h : MapAt W b o) (s : Bytes) (k : Nat) (hk : k ≤ s.length) (hs : s.length ≤ 1099511627776) (ho : lenO o ≤ 1099511627776) (qn qs : Nat) (hn : W.heap[qn]? = some (.cells #[.string { data := #[108, 111, 103] }] 9)) (hq : W.heap[qs]? = some (.cells #[.string (str s)] 9)) :
    Calls Tryz.prog 89 #[.map (some b), .int .i64 (k : Nat), .pointer (some ⟨qn, 0, none⟩), .pointer (some ⟨qs, 0, none⟩)] W fun e w' => e = .returned (.tuple #[]) ∧ MapAt w' b (some (o.getD [] ++ s.take k)) ∧ Turn [b] W w' := by
  have cn : W.cell? ⟨qn, 0, none⟩ = some (.string { data := #[108, 111, 103] }) := cell_in hn 0 _ rfl
  have cs : W.cell? ⟨qs, 0, none⟩ = some (.string (str s)) := cell_in hq 0 _ rfl
  have hlk := MapAt.look (W := W.drew) h
  have cn2 : W.drew.cell? ⟨qn, 0, none⟩ = some (.string { data := #[108, 111, 103] }) := cn
  have cs2 : W.drew.cell? ⟨qs, 0, none⟩ = some (.string (str s)) := cs
  have hzs : (str s).size = s.length := str_size _
  have hzo : (str (o.getD [])).size = lenO o := str_size _
  have hex : (str s).extract 0 k = str (s.take k) := by rw [extract_str, str_data, List.drop_zero, Nat.sub_zero]
  have hzt : (str (s.take k)).size = (s.take k).length := str_size _
  have htk := take_le s k
  have hap : str (o.getD []) ++ str (s.take k) = str (o.getD [] ++ s.take k) := str_append _ _
  obtain ⟨w1, hrun, hm, hg⟩ := MapAt.store (W := W.drew) h (o.getD [] ++ s.take k) (by unfold lenO at ho; rw [List.length_append]; unfold maxLen; omega)
  have HM := hid hm
  have HT : Hid (Turn [b] W w1) := (Turn.refl _ _).drew.trans (Turn.grown hg (by simp)) (fun b h => .inl h)
  clear hn hq h hm hg
  generalize o.getD [] ++ s.take k = r at *
  generalize o.getD [] = ob at *
  generalize s.take k = st at *
  go_enter Tryz.func89, Tryz.ntmps89
  go_wp2_with fail
  go_region
  all_goals (go_wp2_with fail)
  all_goals (go_end0; exact ⟨rfl, HM.out, HT.out⟩)
theorem infoCall : (Tryz.prog.info? 85).map (fun i => (i.zero, i.size, i.bytes)) = some (some (.agg #[.int .i64 0, .nilFunc]), 2, 16) := by kernel_rfl
/-- an append to a row of the call's own, as one step of a region that draws its order -/
theorem step_append_own {P : Program} {ops : Array Oper} {o : Oper} {a : Act} {w : World} {K : Act → World → Prop} {Q : Exit → Act → World → Prop} {E : Prop}
    (hg : o.guard = none) (s x : Operand) (t : TypeId) (hop : o.op = Op.call { callee := Callee.builtin Builtin.append, args := #[s, x], argTypes := #[t, t] })
    (base : Nat) (e : TypeId) (i : TypeInfo) (z : Value) (size bytes : Nat) (h1 : P.underlying t = some (.slice e)) (h2 : P.info? e = some i) (h3 : i.zero = some z) (h4 : i.size = size) (h5 : i.bytes = bytes) (h6 : z.cells.size = size) (h7 : 0 < size)
    (v : Value) (n : Nat) (xs : List Value) (hs : a.eval s = v) (hown : w.ownsRow base e size v n xs)
    (ad : Addr) (m c : Nat) (news : List Value) (hx : a.eval x = .slice (some ad) m c) (hn : news.length = m * size) (hc : ∀ j u, news[j]? = some u → w.cell? (ad.add j) = some u) (h1c : ∀ u ∈ news, u.oneCell' = true)
    (b1 : n + m ≤ maxLen) (b2 : (n + m) * bytes ≤ 140737488355328) (hbase : base ≤ w.heap.size)
    (hK : ∀ v' w', w'.ownsRow base e size v' (n + m) (xs ++ news) → w.grownBy w' v.ownBlock → (v'.ownBlock = v.ownBlock ∨ v'.ownBlock = some w.heap.size) → K (a.put o.dst v') w') :
    if Region.wanted o (yielded ops a.tmps) = true then Oper.wp P o a w K Q else E := by
  have hw : Region.wanted o (yielded ops a.tmps) = true := by simp [Region.wanted, hg]
  rw [if_pos hw]
  obtain ⟨v', w', hrun, r1, r2, _, r4⟩ := run_append_own_at (P := P) w base t o.type e i z size bytes h1 h2 h3 h4 h5 h6 h7 v n xs hown ad m c news hn hc h1c b1 b2 hbase
  unfold Oper.wp
  simp [execOp, hop, resolve, invoke, builtin, hs, hx, hrun, Result.andThen]
  exact hK v' w' r1 r2 r4
theorem cells_two {w : World} (x y : Value) (t : TypeId) : ∀ j u, [x, y][j]? = some u → (w.alloc (.cells #[x, y] t)).cell? ((⟨w.heap.size, 0, none⟩ : Addr).add j) = some u := by
  intro j u hu
  have h := heap_alloc_new w (.cells #[x, y] t)
  rw [show (⟨w.heap.size, 0, none⟩ : Addr).add j = ⟨w.heap.size, j, none⟩ from by unfold Addr.add; split <;> simp_all]
  exact cell_in h j u (by simpa using hu)
theorem own_form {w : World} {B : Nat} {e : TypeId} {s : Nat} {v : Value} {n : Nat} {xs : List Value} (h : w.ownsRow B e s v n xs) : ∃ a cap, v = .slice a n cap := by
  rcases h.2 with ⟨rfl, rfl⟩ | ⟨g, cap, cur, rfl, _⟩
  · exact ⟨none, 0, rfl⟩
  · exact ⟨_, _, rfl⟩
set_option maxRecDepth 100000 in
set_option maxHeartbeats 2000000 in
theorem turn_put {W : World} {p : Nat} {F : List Nat} {d : Ds} (h : DkAt W p F d) (hl : d.fused = true → 1 ≤ d.left ∧ d.left ≤ 9223372036854775807) (hpn : d.pend.length ≤ 1000000) (s : Bytes) (hs : s.length ≤ 1099511627776) (qn qs : Nat)
    (hn : W.heap[qn]? = some (.cells #[.string { data := #[108, 111, 103] }] 9)) (hq : W.heap[qs]? = some (.cells #[.string (str s)] 9)) :
    Calls Tryz.prog 31 #[.pointer (some ⟨p, 0, none⟩), .agg #[.int .i64 (1 : Int), .func (.func 32) #[] #[.pointer (some ⟨qs, 0, none⟩), .pointer (some ⟨qn, 0, none⟩)]]] W fun e w' => e = .returned (.int .i64 0) ∧ ∃ F', DkAt w' p F' (Ds.spend { d with seen := some s, pend := d.pend ++ [⟨true, s⟩] }) ∧ (∀ b ∈ F', b ∈ F ∨ b = qn ∨ b = qs ∨ W.heap.size ≤ b) ∧ Turn F W w' := by
  obtain ⟨cap, seen, lasts, pend, fused, left⟩ := d
  have HD := hid h
  obtain ⟨bs, bl, vp, xs, h1, h2, h3, h4, h5, h6, h7, h8, h9, h10, h11⟩ := h
  obtain ⟨ap, cp, rfl⟩ := own_form h4
  obtain ⟨i0, hi, hz0, hz1, hz2⟩ := info_parts infoCall
  have HC := hid (fun (W1 : World) (hm : MapAt W1 bs seen) hn hq => puts_any hm s (by unfold maxLen; omega) qn qs 1 hn hq)
  have hA : Below W.heap.size W (W.alloc (.cells #[.int .i64 (1 : Int), .func (.func 32) #[] #[.pointer (some ⟨qs, 0, none⟩), .pointer (some ⟨qn, 0, none⟩)]] 85)) := (Below.refl _ _).alloc (Nat.le_refl _) _
  have HW0 := hid (show (W.alloc (.cells #[.int .i64 (1 : Int), .func (.func 32) #[] #[.pointer (some ⟨qs, 0, none⟩), .pointer (some ⟨qn, 0, none⟩)]] 85)).heap[W.heap.size]? = _ from heap_alloc_new W _)
  have HA := hid hA
  have H1 := hid ((hA.block p (h11 p h7)).trans h1)
  have H2 := hid (h2.of_block (hA.block bs (h11 bs h8)))
  have H3 := hid (h3.of_block (hA.block bl (h11 bl h9)))
  have H4 := hid (ownsRow_of_block h4 (fun r hr => hA.block r (h11 r (h10 r hr))))
  have H5 := hid (PdsAt.turn (fun _ h => h) (fun b cs hb _ => hA.block b (h11 b hb)) _ _ h5)
  have HN := hid ((hA.block qn (Array.getElem?_eq_some_iff.1 hn).1).trans hn)
  have HQ := hid ((hA.block qs (Array.getElem?_eq_some_iff.1 hq).1).trans hq)
  have hqnl := (Array.getElem?_eq_some_iff.1 hn).1
  have hqsl := (Array.getElem?_eq_some_iff.1 hq).1
  have H10 := hid h10
  have H11 := hid h11
  clear h1 h2 h3 h4 h5 hn hq hA h10 h11
  go_enter Tryz.func31, Tryz.ntmps31
  go_wp2_with fail
  generalize W.alloc (.cells #[.int .i64 (1 : Int), .func (.func 32) #[] #[.pointer (some ⟨qs, 0, none⟩), .pointer (some ⟨qn, 0, none⟩)]] 85) = W0 at *
  generalize hke : W.heap.size = cb at HW0 ⊢
  have hcbl : cb < W0.heap.size := (Array.getElem?_eq_some_iff.1 HW0.out).1
  have hpl0 : p < W0.heap.size := (Array.getElem?_eq_some_iff.1 H1.out).1
  have hbcb : bs < cb := by have := H11.out bs h8; omega
  have hpcb : p < cb := by have := H11.out p h7; omega
  have hpb : p ≠ bs := H2.out.ne H1.out
  have b0 : W0.cell? ⟨cb, 0, none⟩ = some (.int .i64 (1 : Int)) := cell_in HW0.out 0 _ rfl
  have b1 : W0.cell? ⟨cb, 1, none⟩ = some (.func (.func 32) #[] #[.pointer (some ⟨qs, 0, none⟩), .pointer (some ⟨qn, 0, none⟩)]) := cell_in HW0.out 1 _ rfl
  have c1 : W0.cell? ⟨p, 1, none⟩ = some (.map (some bs)) := cell_in H1.out 1 _ rfl
  have HKP : Hid (∀ w1, Turn [bs] W0 w1 → w1.heap[p]? = W0.heap[p]? ∧ w1.heap[cb]? = W0.heap[cb]?) := fun w1 t => ⟨t.block hpl0 (by simp [hpb]), t.block hcbl (by simp; omega)⟩
  go_region_held3 (fun W' => W'.cell? ⟨cb, 0, none⟩ = some (.int .i64 (1 : Int)) ∧ W'.cell? ⟨cb, 1, none⟩ = some (.func (.func 32) #[] #[.pointer (some ⟨qs, 0, none⟩), .pointer (some ⟨qn, 0, none⟩)]) ∧ W'.cell? ⟨p, 1, none⟩ = some (.map (some bs))) (first | exact ⟨b0, b1, c1⟩ | exact ⟨b0', b1', c1'⟩)
    ((go_at_call 32; refine Calls.mono (HC.out _ (by exact H2.out) (by exact HN.out) (by exact HQ.out)) ?_; rintro e w1 ⟨rfl, hm1, ht1⟩; have HM1 := hid hm1; have HT1 : Hid (Turn [bs] W0 w1) := ht1; have HP1 := hid ((HKP.out w1 HT1.out).1.trans H1.out); have HB1 := hid ((HKP.out w1 HT1.out).2.trans HW0.out); have b0' := cell_in HB1.out 0 _ rfl; have b1' := cell_in HB1.out 1 _ rfl; have c1' := cell_in HP1.out 1 _ rfl; clear hm1 ht1))
  clear b0 b1 c1 b0' b1' c1'
  have HQ1 := hid (fun (b : Nat) (cs : Array Value) (hb : b < W.heap.size) (hc : W0.heap[b]? = some (.cells cs 9)) => HT1.out.block (Nat.lt_of_lt_of_le hb (by omega)) (by simp; intro e; subst e; obtain ⟨es, cl, hmm⟩ := H2.out.isMap; rw [hc] at hmm; cases hmm))
  have H31 := hid (H3.out.of_block (HT1.out.block (by have := H11.out bl h9; omega) (by simp; exact Ne.symm h6)))
  have H41 := hid (ownsRow_of_block H4.out (fun r hr => HT1.out.block (by have := H11.out r (H10.out r hr); omega) (by
    simp; rintro rfl
    obtain ⟨es, cl, hmm⟩ := H2.out.isMap
    exact own_ne H4.out hmm (fun cur e => by cases e) hr.symm)))
  have hrp := own_ne H41.out HP1.out (fun cur e => by cases e)
  have hs1 : W0.heap.size ≤ w1.heap.size := HT1.out.size
  go_wp2_with fail
  have b0 : w1.drew.cell? ⟨cb, 0, none⟩ = some (.int .i64 (1 : Int)) := cell_in (w := w1.drew) HB1.out 0 _ rfl
  have b1 : w1.drew.cell? ⟨cb, 1, none⟩ = some (.func (.func 32) #[] #[.pointer (some ⟨qs, 0, none⟩), .pointer (some ⟨qn, 0, none⟩)]) := cell_in (w := w1.drew) HB1.out 1 _ rfl
  have c3 : w1.drew.cell? ⟨p, 3, none⟩ = some (.slice ap pend.length cp) := cell_in (w := w1.drew) HP1.out 3 _ rfl
  have HOA := hid (World.ownsRow.alloc (w := w1.drew) (show w1.drew.ownsRow 0 85 2 _ _ _ from H41.out) (.cells #[.int .i64 (1 : Int), .func (.func 32) #[] #[.pointer (some ⟨qs, 0, none⟩), .pointer (some ⟨qn, 0, none⟩)]] 85))
  have HPA := hid (show (w1.drew.alloc (.cells #[.int .i64 (1 : Int), .func (.func 32) #[] #[.pointer (some ⟨qs, 0, none⟩), .pointer (some ⟨qn, 0, none⟩)]] 85)).heap[p]? = _ from (heap_alloc_old w1.drew _ (Nat.lt_of_lt_of_le hpl0 hs1)).trans HP1.out)
  have c3a : (w1.alloc (.cells #[.int .i64 (1 : Int), .func (.func 32) #[] #[.pointer (some ⟨qs, 0, none⟩), .pointer (some ⟨qn, 0, none⟩)]] 85)).cell? ⟨p, 3, none⟩ = some (.slice ap pend.length cp) := cell_in ((heap_alloc_old w1 _ (Nat.lt_of_lt_of_le hpl0 hs1)).trans HP1.out) 3 _ rfl
  have hpla : p < (w1.drew.alloc (.cells #[.int .i64 (1 : Int), .func (.func 32) #[] #[.pointer (some ⟨qs, 0, none⟩), .pointer (some ⟨qn, 0, none⟩)]] 85)).heap.size := by rw [World.size_alloc]; show p < w1.heap.size + 1; omega
  go_region_law (refine step_append_own rfl (.tmp 18) (.tmp 20) 74 rfl 0 85 i0 (.agg #[.int .i64 0, .nilFunc]) 2 16 Tryz.underlying74 hi hz0 hz1 hz2 rfl (by decide) (.slice ap pend.length cp) pend.length xs (by simp [Act.eval, Act.put]) (by exact HOA.out) ⟨w1.heap.size, 0, none⟩ 1 1 [.int .i64 (1 : Int), .func (.func 32) #[] #[.pointer (some ⟨qs, 0, none⟩), .pointer (some ⟨qn, 0, none⟩)]] (by simp [Act.eval, Act.put]) rfl (by exact cells_two (w := w1.drew) _ _ _) (by simp [Value.oneCell']) (by unfold maxLen; omega) (by omega) (Nat.zero_le _) ?_; intro v' w2 hown' hgrow hloc; obtain ⟨a', c', rfl⟩ := own_form hown'; have HP2 := hid ((hgrow.block p hpla hrp).trans HPA.out); have c3' := cell_in HP2.out 3 _ rfl; have f3' := free_in HP2.out 3)
  all_goals
    have hg2 : (w1.alloc (.cells #[.int .i64 (1 : Int), .func (.func 32) #[] #[.pointer (some ⟨qs, 0, none⟩), .pointer (some ⟨qn, 0, none⟩)]] 85)).grownBy w2 (Value.slice ap pend.length cp).ownBlock := ⟨hgrow.os, hgrow.tape, hgrow.output, hgrow.size, hgrow.block⟩
    have hb2 : ∀ b, b < w1.heap.size → some b ≠ (Value.slice ap pend.length cp).ownBlock → w2.heap[b]? = w1.heap[b]? := fun b hb hr => (hg2.block b (by rw [World.size_alloc]; omega) hr).trans (heap_alloc_old w1 _ hb)
    have hsz2 : w1.heap.size + 1 ≤ w2.heap.size := by have := hg2.size; rw [World.size_alloc] at this; exact this
    have hbk : ∀ b (cs : Array Value), b < W.heap.size → W0.heap[b]? = some (.cells cs 9) → w2.heap[b]? = W0.heap[b]? := fun b cs hb hc => by
      have e1 := HQ1.out b cs hb hc
      rw [hb2 b (by have := HA.out.size; omega) (own_ne H41.out (e1.trans hc) (fun cur e => by cases e)), e1]
    have hm2 : MapAt w2 bs (some s) := HM1.out.of_block (hb2 bs HM1.out.lt (fun e => by obtain ⟨es, cl, hmm⟩ := HM1.out.isMap; exact own_ne H41.out hmm (fun cur e => by cases e) e))
    have hl2 : MapAt w2 bl lasts := H31.out.of_block (hb2 bl H31.out.lt (fun e => by obtain ⟨es, cl, hmm⟩ := H31.out.isMap; exact own_ne H41.out hmm (fun cur e => by cases e) e))
    have hpd : PdsAt (qn :: qs :: (ownL (.slice a' (pend.length + 1) c') ++ F)) w2 (pend ++ [⟨true, s⟩]) (xs ++ [.int .i64 (1 : Int), .func (.func 32) #[] #[.pointer (some ⟨qs, 0, none⟩), .pointer (some ⟨qn, 0, none⟩)]]) :=
      PdsAt.snoc ⟨rfl, qn, qs, (hbk qn _ hqnl HN.out).trans HN.out, (hbk qs _ hqsl HQ.out).trans HQ.out, by simp, by simp, rfl⟩ _ _ (PdsAt.turn (fun b hb => by simp [hb]) (fun b cs hb hc => hbk b cs (H11.out b hb) hc) _ _ H5.out)
    have hrow : ∀ r, (Value.slice a' (pend.length + 1) c').ownBlock = some r → r ∈ F ∨ W.heap.size ≤ r := fun r hr => by
      rcases hloc with e | e
      · rw [e] at hr; exact .inl (H10.out r hr)
      · have e2 : (Value.slice a' (pend.length + 1) c').ownBlock = some ((w1.alloc (.cells #[.int .i64 (1 : Int), .func (.func 32) #[] #[.pointer (some ⟨qs, 0, none⟩), .pointer (some ⟨qn, 0, none⟩)]] 85)).heap.size) := e
        rw [e2, World.size_alloc] at hr
        cases hr
        have := HA.out.size
        omega
    have hrl : ∀ r, (Value.slice a' (pend.length + 1) c').ownBlock = some r → r < w2.heap.size := fun r hr => (hown'.lt r hr).2
    have HDK := hid (DkAt.mk_set (W := w2) (p := p) (F := qn :: qs :: (ownL (.slice a' (pend.length + 1) c') ++ F)) (d' := ⟨cap, some s, lasts, pend ++ [⟨true, s⟩], fused, left⟩) (o := 3) (v := .slice a' (pend.length + 1) c') HP2.out rfl hm2 hl2 (by rw [List.length_append]; exact hown') hpd h6
      (by simp [h7]) (by simp [h8]) (by simp [h9]) (fun r hr => by simp [mem_ownL.2 hr]) (fun b hb => by
        simp only [List.mem_cons, List.mem_append] at hb
        have hws := HA.out.size
        rcases hb with rfl | rfl | hb | hb
        · omega
        · omega
        · exact hrl b (mem_ownL.1 hb)
        · have := H11.out b hb; omega))
    have HTT : Hid (Turn F W (w2.setCell ⟨p, 3, none⟩ (.slice a' (pend.length + 1) c'))) :=
      (((Turn.below HA.out).trans (HT1.out.mono (G := F) (by simp [h8])) (fun b h => .inl h)).trans ((Turn.alloc (F := F) w1 (.cells #[.int .i64 (1 : Int), .func (.func 32) #[] #[.pointer (some ⟨qs, 0, none⟩), .pointer (some ⟨qn, 0, none⟩)]] 85)).trans (Turn.grow hg2 (fun r hr => H10.out r hr)) (fun b h => .inl h)) (fun b h => .inl h)).trans (Turn.set _ p 3 _ h7) (fun b h => .inl h)
    have HRW := hid hrow
    have HL := hid hl
    clear hm2 hl2 hpd hrow hrl hbk hb2 hown' hg2 hgrow hloc c3' f3' HP2 c3 c3a b0 b1 HOA HPA
    go_wp2_with fail
    refine Calls.mono (spend_any HDK.out HL.out) ?_
    rintro e w4 ⟨rfl, hd4, ht4⟩
    go_wp2_with fail
    go_ret
    refine ⟨rfl, _, hd4, fun b hb => ?_, HTT.out.trans ht4 (by simp [h7])⟩
    simp only [List.mem_cons, List.mem_append] at hb
    rcases hb with h | h | h | h
    · exact .inr (.inl h)
    · exact .inr (.inr (.inl h))
    · rcases HRW.out b (mem_ownL.1 h) with h | h
      · exact .inl h
      · exact .inr (.inr (.inr h))
    · exact .inl h
set_option maxRecDepth 100000 in
set_option maxHeartbeats 2000000 in
theorem turn_add {W : World} {p : Nat} {F : List Nat} {d : Ds} (h : DkAt W p F d) (hl : d.fused = true → 1 ≤ d.left ∧ d.left ≤ 9223372036854775807) (hpn : d.pend.length ≤ 1000000) (s : Bytes) (hs : s.length ≤ 1099511627776) (hso : lenO d.seen ≤ 1099511627776) (qn qs : Nat)
    (hn : W.heap[qn]? = some (.cells #[.string { data := #[108, 111, 103] }] 9)) (hq : W.heap[qs]? = some (.cells #[.string (str s)] 9)) :
    Calls Tryz.prog 31 #[.pointer (some ⟨p, 0, none⟩), .agg #[.int .i64 (s.length : Int), .func (.func 89) #[] #[.pointer (some ⟨qn, 0, none⟩), .pointer (some ⟨qs, 0, none⟩)]]] W fun e w' => e = .returned (.int .i64 0) ∧ ∃ F', DkAt w' p F' (Ds.spend { d with seen := some (d.seen.getD [] ++ s), pend := d.pend ++ [⟨false, s⟩] }) ∧ (∀ b ∈ F', b ∈ F ∨ b = qn ∨ b = qs ∨ W.heap.size ≤ b) ∧ Turn F W w' := by
  obtain ⟨cap, seen, lasts, pend, fused, left⟩ := d
  have HD := hid h
  obtain ⟨bs, bl, vp, xs, h1, h2, h3, h4, h5, h6, h7, h8, h9, h10, h11⟩ := h
  obtain ⟨ap, cp, rfl⟩ := own_form h4
  obtain ⟨i0, hi, hz0, hz1, hz2⟩ := info_parts infoCall
  have HC := hid (fun (W1 : World) (hm : MapAt W1 bs seen) hn hq => by have h := adds_any hm s s.length (Nat.le_refl _) hs hso qn qs hn hq; rw [List.take_length] at h; exact h)
  have hA : Below W.heap.size W (W.alloc (.cells #[.int .i64 (s.length : Int), .func (.func 89) #[] #[.pointer (some ⟨qn, 0, none⟩), .pointer (some ⟨qs, 0, none⟩)]] 85)) := (Below.refl _ _).alloc (Nat.le_refl _) _
  have HW0 := hid (show (W.alloc (.cells #[.int .i64 (s.length : Int), .func (.func 89) #[] #[.pointer (some ⟨qn, 0, none⟩), .pointer (some ⟨qs, 0, none⟩)]] 85)).heap[W.heap.size]? = _ from heap_alloc_new W _)
  have HA := hid hA
  have H1 := hid ((hA.block p (h11 p h7)).trans h1)
  have H2 := hid (h2.of_block (hA.block bs (h11 bs h8)))
  have H3 := hid (h3.of_block (hA.block bl (h11 bl h9)))
  have H4 := hid (ownsRow_of_block h4 (fun r hr => hA.block r (h11 r (h10 r hr))))
  have H5 := hid (PdsAt.turn (fun _ h => h) (fun b cs hb _ => hA.block b (h11 b hb)) _ _ h5)
  have HN := hid ((hA.block qn (Array.getElem?_eq_some_iff.1 hn).1).trans hn)
  have HQ := hid ((hA.block qs (Array.getElem?_eq_some_iff.1 hq).1).trans hq)
  have hqnl := (Array.getElem?_eq_some_iff.1 hn).1
  have hqsl := (Array.getElem?_eq_some_iff.1 hq).1
  have H10 := hid h10
  have H11 := hid h11
  clear h1 h2 h3 h4 h5 hn hq hA h10 h11
  go_enter Tryz.func31, Tryz.ntmps31
  go_wp2_with fail
  generalize W.alloc (.cells #[.int .i64 (s.length : Int), .func (.func 89) #[] #[.pointer (some ⟨qn, 0, none⟩), .pointer (some ⟨qs, 0, none⟩)]] 85) = W0 at *
  generalize hke : W.heap.size = cb at HW0 ⊢
  have hcbl : cb < W0.heap.size := (Array.getElem?_eq_some_iff.1 HW0.out).1
  have hpl0 : p < W0.heap.size := (Array.getElem?_eq_some_iff.1 H1.out).1
  have hbcb : bs < cb := by have := H11.out bs h8; omega
  have hpcb : p < cb := by have := H11.out p h7; omega
  have hpb : p ≠ bs := H2.out.ne H1.out
  have b0 : W0.cell? ⟨cb, 0, none⟩ = some (.int .i64 (s.length : Int)) := cell_in HW0.out 0 _ rfl
  have b1 : W0.cell? ⟨cb, 1, none⟩ = some (.func (.func 89) #[] #[.pointer (some ⟨qn, 0, none⟩), .pointer (some ⟨qs, 0, none⟩)]) := cell_in HW0.out 1 _ rfl
  have c1 : W0.cell? ⟨p, 1, none⟩ = some (.map (some bs)) := cell_in H1.out 1 _ rfl
  have HKP : Hid (∀ w1, Turn [bs] W0 w1 → w1.heap[p]? = W0.heap[p]? ∧ w1.heap[cb]? = W0.heap[cb]?) := fun w1 t => ⟨t.block hpl0 (by simp [hpb]), t.block hcbl (by simp; omega)⟩
  go_region_held3 (fun W' => W'.cell? ⟨cb, 0, none⟩ = some (.int .i64 (s.length : Int)) ∧ W'.cell? ⟨cb, 1, none⟩ = some (.func (.func 89) #[] #[.pointer (some ⟨qn, 0, none⟩), .pointer (some ⟨qs, 0, none⟩)]) ∧ W'.cell? ⟨p, 1, none⟩ = some (.map (some bs))) (first | exact ⟨b0, b1, c1⟩ | exact ⟨b0', b1', c1'⟩)
    ((go_at_call 89; refine Calls.mono (HC.out _ (by exact H2.out) (by exact HN.out) (by exact HQ.out)) ?_; rintro e w1 ⟨rfl, hm1, ht1⟩; have HM1 := hid hm1; have HT1 : Hid (Turn [bs] W0 w1) := ht1; have HP1 := hid ((HKP.out w1 HT1.out).1.trans H1.out); have HB1 := hid ((HKP.out w1 HT1.out).2.trans HW0.out); have b0' := cell_in HB1.out 0 _ rfl; have b1' := cell_in HB1.out 1 _ rfl; have c1' := cell_in HP1.out 1 _ rfl; clear hm1 ht1))
  clear b0 b1 c1 b0' b1' c1'
  have HQ1 := hid (fun (b : Nat) (cs : Array Value) (hb : b < W.heap.size) (hc : W0.heap[b]? = some (.cells cs 9)) => HT1.out.block (Nat.lt_of_lt_of_le hb (by omega)) (by simp; intro e; subst e; obtain ⟨es, cl, hmm⟩ := H2.out.isMap; rw [hc] at hmm; cases hmm))
  have H31 := hid (H3.out.of_block (HT1.out.block (by have := H11.out bl h9; omega) (by simp; exact Ne.symm h6)))
  have H41 := hid (ownsRow_of_block H4.out (fun r hr => HT1.out.block (by have := H11.out r (H10.out r hr); omega) (by
    simp; rintro rfl
    obtain ⟨es, cl, hmm⟩ := H2.out.isMap
    exact own_ne H4.out hmm (fun cur e => by cases e) hr.symm)))
  have hrp := own_ne H41.out HP1.out (fun cur e => by cases e)
  have hs1 : W0.heap.size ≤ w1.heap.size := HT1.out.size
  go_wp2_with fail
  have b0 : w1.drew.cell? ⟨cb, 0, none⟩ = some (.int .i64 (s.length : Int)) := cell_in (w := w1.drew) HB1.out 0 _ rfl
  have b1 : w1.drew.cell? ⟨cb, 1, none⟩ = some (.func (.func 89) #[] #[.pointer (some ⟨qn, 0, none⟩), .pointer (some ⟨qs, 0, none⟩)]) := cell_in (w := w1.drew) HB1.out 1 _ rfl
  have c3 : w1.drew.cell? ⟨p, 3, none⟩ = some (.slice ap pend.length cp) := cell_in (w := w1.drew) HP1.out 3 _ rfl
  have HOA := hid (World.ownsRow.alloc (w := w1.drew) (show w1.drew.ownsRow 0 85 2 _ _ _ from H41.out) (.cells #[.int .i64 (s.length : Int), .func (.func 89) #[] #[.pointer (some ⟨qn, 0, none⟩), .pointer (some ⟨qs, 0, none⟩)]] 85))
  have HPA := hid (show (w1.drew.alloc (.cells #[.int .i64 (s.length : Int), .func (.func 89) #[] #[.pointer (some ⟨qn, 0, none⟩), .pointer (some ⟨qs, 0, none⟩)]] 85)).heap[p]? = _ from (heap_alloc_old w1.drew _ (Nat.lt_of_lt_of_le hpl0 hs1)).trans HP1.out)
  have c3a : (w1.alloc (.cells #[.int .i64 (s.length : Int), .func (.func 89) #[] #[.pointer (some ⟨qn, 0, none⟩), .pointer (some ⟨qs, 0, none⟩)]] 85)).cell? ⟨p, 3, none⟩ = some (.slice ap pend.length cp) := cell_in ((heap_alloc_old w1 _ (Nat.lt_of_lt_of_le hpl0 hs1)).trans HP1.out) 3 _ rfl
  have hpla : p < (w1.drew.alloc (.cells #[.int .i64 (s.length : Int), .func (.func 89) #[] #[.pointer (some ⟨qn, 0, none⟩), .pointer (some ⟨qs, 0, none⟩)]] 85)).heap.size := by rw [World.size_alloc]; show p < w1.heap.size + 1; omega
  go_region_law (refine step_append_own rfl (.tmp 18) (.tmp 20) 74 rfl 0 85 i0 (.agg #[.int .i64 0, .nilFunc]) 2 16 Tryz.underlying74 hi hz0 hz1 hz2 rfl (by decide) (.slice ap pend.length cp) pend.length xs (by simp [Act.eval, Act.put]) (by exact HOA.out) ⟨w1.heap.size, 0, none⟩ 1 1 [.int .i64 (s.length : Int), .func (.func 89) #[] #[.pointer (some ⟨qn, 0, none⟩), .pointer (some ⟨qs, 0, none⟩)]] (by simp [Act.eval, Act.put]) rfl (by exact cells_two (w := w1.drew) _ _ _) (by simp [Value.oneCell']) (by unfold maxLen; omega) (by omega) (Nat.zero_le _) ?_; intro v' w2 hown' hgrow hloc; obtain ⟨a', c', rfl⟩ := own_form hown'; have HP2 := hid ((hgrow.block p hpla hrp).trans HPA.out); have c3' := cell_in HP2.out 3 _ rfl; have f3' := free_in HP2.out 3)
  all_goals
    have hg2 : (w1.alloc (.cells #[.int .i64 (s.length : Int), .func (.func 89) #[] #[.pointer (some ⟨qn, 0, none⟩), .pointer (some ⟨qs, 0, none⟩)]] 85)).grownBy w2 (Value.slice ap pend.length cp).ownBlock := ⟨hgrow.os, hgrow.tape, hgrow.output, hgrow.size, hgrow.block⟩
    have hb2 : ∀ b, b < w1.heap.size → some b ≠ (Value.slice ap pend.length cp).ownBlock → w2.heap[b]? = w1.heap[b]? := fun b hb hr => (hg2.block b (by rw [World.size_alloc]; omega) hr).trans (heap_alloc_old w1 _ hb)
    have hsz2 : w1.heap.size + 1 ≤ w2.heap.size := by have := hg2.size; rw [World.size_alloc] at this; exact this
    have hbk : ∀ b (cs : Array Value), b < W.heap.size → W0.heap[b]? = some (.cells cs 9) → w2.heap[b]? = W0.heap[b]? := fun b cs hb hc => by
      have e1 := HQ1.out b cs hb hc
      rw [hb2 b (by have := HA.out.size; omega) (own_ne H41.out (e1.trans hc) (fun cur e => by cases e)), e1]
    have hm2 : MapAt w2 bs (some (seen.getD [] ++ s)) := HM1.out.of_block (hb2 bs HM1.out.lt (fun e => by obtain ⟨es, cl, hmm⟩ := HM1.out.isMap; exact own_ne H41.out hmm (fun cur e => by cases e) e))
    have hl2 : MapAt w2 bl lasts := H31.out.of_block (hb2 bl H31.out.lt (fun e => by obtain ⟨es, cl, hmm⟩ := H31.out.isMap; exact own_ne H41.out hmm (fun cur e => by cases e) e))
    have hpd : PdsAt (qn :: qs :: (ownL (.slice a' (pend.length + 1) c') ++ F)) w2 (pend ++ [⟨false, s⟩]) (xs ++ [.int .i64 (s.length : Int), .func (.func 89) #[] #[.pointer (some ⟨qn, 0, none⟩), .pointer (some ⟨qs, 0, none⟩)]]) :=
      PdsAt.snoc ⟨rfl, qn, qs, (hbk qn _ hqnl HN.out).trans HN.out, (hbk qs _ hqsl HQ.out).trans HQ.out, by simp, by simp, rfl⟩ _ _ (PdsAt.turn (fun b hb => by simp [hb]) (fun b cs hb hc => hbk b cs (H11.out b hb) hc) _ _ H5.out)
    have hrow : ∀ r, (Value.slice a' (pend.length + 1) c').ownBlock = some r → r ∈ F ∨ W.heap.size ≤ r := fun r hr => by
      rcases hloc with e | e
      · rw [e] at hr; exact .inl (H10.out r hr)
      · have e2 : (Value.slice a' (pend.length + 1) c').ownBlock = some ((w1.alloc (.cells #[.int .i64 (s.length : Int), .func (.func 89) #[] #[.pointer (some ⟨qn, 0, none⟩), .pointer (some ⟨qs, 0, none⟩)]] 85)).heap.size) := e
        rw [e2, World.size_alloc] at hr
        cases hr
        have := HA.out.size
        omega
    have hrl : ∀ r, (Value.slice a' (pend.length + 1) c').ownBlock = some r → r < w2.heap.size := fun r hr => (hown'.lt r hr).2
    have HDK := hid (DkAt.mk_set (W := w2) (p := p) (F := qn :: qs :: (ownL (.slice a' (pend.length + 1) c') ++ F)) (d' := ⟨cap, some (seen.getD [] ++ s), lasts, pend ++ [⟨false, s⟩], fused, left⟩) (o := 3) (v := .slice a' (pend.length + 1) c') HP2.out rfl hm2 hl2 (by rw [List.length_append]; exact hown') hpd h6
      (by simp [h7]) (by simp [h8]) (by simp [h9]) (fun r hr => by simp [mem_ownL.2 hr]) (fun b hb => by
        simp only [List.mem_cons, List.mem_append] at hb
        have hws := HA.out.size
        rcases hb with rfl | rfl | hb | hb
        · omega
        · omega
        · exact hrl b (mem_ownL.1 hb)
        · have := H11.out b hb; omega))
    have HTT : Hid (Turn F W (w2.setCell ⟨p, 3, none⟩ (.slice a' (pend.length + 1) c'))) :=
      (((Turn.below HA.out).trans (HT1.out.mono (G := F) (by simp [h8])) (fun b h => .inl h)).trans ((Turn.alloc (F := F) w1 (.cells #[.int .i64 (s.length : Int), .func (.func 89) #[] #[.pointer (some ⟨qn, 0, none⟩), .pointer (some ⟨qs, 0, none⟩)]] 85)).trans (Turn.grow hg2 (fun r hr => H10.out r hr)) (fun b h => .inl h)) (fun b h => .inl h)).trans (Turn.set _ p 3 _ h7) (fun b h => .inl h)
    have HRW := hid hrow
    have HL := hid hl
    clear hm2 hl2 hpd hrow hrl hbk hb2 hown' hg2 hgrow hloc c3' f3' HP2 c3 c3a b0 b1 HOA HPA
    go_wp2_with fail
    refine Calls.mono (spend_any HDK.out HL.out) ?_
    rintro e w4 ⟨rfl, hd4, ht4⟩
    go_wp2_with fail
    go_ret
    refine ⟨rfl, _, hd4, fun b hb => ?_, HTT.out.trans ht4 (by simp [h7])⟩
    simp only [List.mem_cons, List.mem_append] at hb
    rcases hb with h | h | h | h
    · exact .inr (.inl h)
    · exact .inr (.inr (.inl h))
    · rcases HRW.out b (mem_ownL.1 h) with h | h
      · exact .inl h
      · exact .inr (.inr (.inr h))
    · exact .inl h
end Go.Proofs.YtmehcogaopackaaGreat
