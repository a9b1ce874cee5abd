/-
  The walks of the two closures of wire.ReadMessage: an entry, a member.
-/
import Derived.Test.YtgkapgfpalbkjaaWJR
namespace Go.Proofs.Ytgkapgfpalbkjaa
open Go.RowKit
set_option linter.unusedVariables false
def rdEntry (s : Bytes) (st : Nat × Nat) : En × (Nat × Nat) := (⟨(pNum s st).1, ((pCount 3 s (pNum s st).2).1 : Nat), (pText 2048 s (pCount 3 s (pNum s st).2).2).1⟩, (pText 2048 s (pCount 3 s (pNum s st).2).2).2)
def rdConf (s : Bytes) (st : Nat × Nat) : Int × (Nat × Nat) := (((pCount 5 s st).1 : Nat), (pCount 5 s st).2)
set_option maxRecDepth 100000 in
set_option maxHeartbeats 4000000 in
theorem readEntry_at (s : Bytes) (hs : s.length ≤ 1152921504606846976) {st st1 st2 st3 : Nat × Nat} {n0 n1 : Nat} {x2 : Bytes} (E0 : Hid (pNum s st = (n0, st1))) (E1 : Hid (pCount 3 s st1 = (n1, st2))) (E2 : Hid (pText 2048 s st2 = (x2, st3))) (b c : Nat) (hne : c ≠ b) (w : World) (hr : RS w b s st) (hc : w.cell? ⟨c, 0, none⟩ = some (.pointer (some ⟨b, 0, none⟩))) :
    Calls Try.prog 59 #[.pointer (some ⟨c, 0, none⟩)] w fun x w' => x = .returned (.agg #[.int .u64 (n0 : Int), .int .i64 (n1 : Int), .string (str x2)]) ∧ RS w' b s st3 ∧ Only b w w' := by
  go_enter Try.func59, Try.ntmps59
  go_wp2_with fail
  have hw0 : Below w.heap.size w (w.alloc (.cells #[.int .u64 0, .int .i64 0, .string { data := #[] }] 58)) := (Below.refl _ _).alloc (Nat.le_refl _) _
  have hkb : b ≠ w.heap.size := Nat.ne_of_lt hr.lt
  have hck : c ≠ w.heap.size := Nat.ne_of_lt (World.block_lt_of_cell? _ _ hc)
  have hc0 := (hw0.cell (p := ⟨c, 0, none⟩) (World.block_lt_of_cell? _ _ hc)).trans hc
  have hJ0 : Hid (JR s b w.heap.size 58 (w.alloc (.cells #[.int .u64 0, .int .i64 0, .string { data := #[] }] 58)) #[.int .u64 0, .int .i64 0, .string { data := #[] }] st (w.alloc (.cells #[.int .u64 0, .int .i64 0, .string { data := #[] }] 58)).drew) :=
    (⟨hr.alloc _, heap_alloc_new w _, .refl _ _ _, hkb⟩ : JR s b w.heap.size 58 _ _ st (w.alloc (.cells #[.int .u64 0, .int .i64 0, .string { data := #[] }] 58)))
  have hO0 : Hid (Only b w (w.alloc (.cells #[.int .u64 0, .int .i64 0, .string { data := #[] }] 58))) := .of_below hw0
  clear hr hc hw0
  generalize w.alloc (.cells #[.int .u64 0, .int .i64 0, .string { data := #[] }] 58) = w0 at *
  have hks : Hid (w.heap.size ≤ w.heap.size) := Nat.le_refl _
  generalize hke : w.heap.size = k at hJ0 hck hkb ⊢
  have HKE := hid hke
  clear hke hks
  have hc0d : w0.drew.cell? ⟨c, 0, none⟩ = some (.pointer (some ⟨b, 0, none⟩)) := hc0
  go_region_held3 (fun w' => w'.cell? ⟨c, 0, none⟩ = some (.pointer (some ⟨b, 0, none⟩))) (first | exact hc0d | assumption | exact keepSet (keepSet (keepSet (by assumption) hck) hck) hck)
    (first
    | (go_at_call 35; refine Calls.mono (jrNum hs E0.out hJ0.out) ?_; rintro e w1 ⟨rfl, J1, ho1⟩; have hc1 := ho1.cell hne hc0d; have HJ1 := hid J1; clear J1)
    | (go_at_call 34; refine Calls.mono (jrCount (m := 3) (by decide) hs E1.out HJ1.out) ?_; rintro e w2 ⟨rfl, J2, ho2⟩; have hc2 := ho2.cell hne hc1; have HJ2 := hid J2; clear J2)
    | (go_at_call 36; refine Calls.mono (jrText (m := 2048) (by decide) hs E2.out HJ2.out) ?_; rintro e w3 ⟨rfl, J3, ho3⟩; have hc3 := ho3.cell hne hc2; have g0 := J3.at 0 (.int .u64 0) rfl; have g1 := J3.at 1 (.int .i64 0) rfl; have g2 := J3.at 2 (.string { data := #[] }) rfl; have gf := J3.free; have HJ3 := hid J3; clear J3))
  clear g0 g1 g2 gf hc0d hc1 hc2 hc3
  go_wp2_with fail
  have J4 := ((HJ3.out.set 0 (.int .u64 n0)).set 1 (.int .i64 n1)).set 2 (.string (str x2))
  have HB := hid J4.blk
  have HR := hid J4.rs
  have HK := hid J4.kept
  clear J4
  generalize ((w3.setCell ⟨k, 0, none⟩ (.int .u64 n0)).setCell ⟨k, 1, none⟩ (.int .i64 n1)).setCell ⟨k, 2, none⟩ (.string (str x2)) = W at *
  have c0 : W.cell? ⟨k, 0, none⟩ = some (.int .u64 n0) := cell_in HB.out 0 _ rfl
  have c1 : W.cell? ⟨k, 1, none⟩ = some (.int .i64 n1) := cell_in HB.out 1 _ rfl
  have c2 : W.cell? ⟨k, 2, none⟩ = some (.string (str x2)) := cell_in HB.out 2 _ rfl
  refine bodyPost_ret (v := .agg #[.int .u64 n0, .int .i64 n1, .string (str x2)]) (by simp [results, Try.results59, go_sem, c0, c1, c2]) rfl ?_
  refine ⟨rfl, HR.out, ?_⟩
  have h1 := hO0.out
  have h2 := HK.out
  have h3 := HKE.out
  exact ⟨h2.1.trans h1.os, h2.2.1.trans h1.tape, h2.2.2.1.trans h1.output, Nat.le_trans h1.size h2.2.2.2.1, fun j hj hb => (h2.2.2.2.2 j (Nat.lt_of_lt_of_le hj h1.size) (fun e => hb (by rw [e])) (by omega)).trans (h1.block j hj hb)⟩
theorem readEntry_any (s : Bytes) (hs : s.length ≤ 1152921504606846976) (st : Nat × Nat) (b c : Nat) (hne : c ≠ b) (w : World) (hr : RS w b s st) (hc : w.cell? ⟨c, 0, none⟩ = some (.pointer (some ⟨b, 0, none⟩))) :
    Calls Try.prog 59 #[.pointer (some ⟨c, 0, none⟩)] w fun x w' => x = .returned (.agg #[.int .u64 ((rdEntry s st).1.term : Nat), .int .i64 (rdEntry s st).1.kind, .string (str (rdEntry s st).1.data)]) ∧ RS w' b s (rdEntry s st).2 ∧ Only b w w' :=
  readEntry_at s hs (hid rfl) (hid rfl) (hid rfl) b c hne w hr hc
theorem readConf_any (s : Bytes) (hs : s.length ≤ 1152921504606846976) (st : Nat × Nat) (b c : Nat) (w : World) (hr : RS w b s st) (hc : w.cell? ⟨c, 0, none⟩ = some (.pointer (some ⟨b, 0, none⟩))) :
    Calls Try.prog 61 #[.pointer (some ⟨c, 0, none⟩)] w fun x w' => x = .returned (.int .i64 (rdConf s st).1) ∧ RS w' b s (rdConf s st).2 ∧ Only b w w' := by
  go_enter Try.func61, Try.ntmps61
  go_wp2_with fail
  refine (rsCount 5 (by decide) hr hs).mono ?_
  rintro e w1 ⟨rfl, hr1, hb1⟩
  go_wp2_with fail
  go_ret
  exact ⟨rfl, hr1, hb1⟩
end Go.Proofs.Ytgkapgfpalbkjaa
