/-
  The walks of the disk's small functions: Off, Used, may, spend, Fuse, Read, New.
-/
import Derived.Test.YtmehcogaopackaaJDk
import Derived.WalkKit
import Derived.LoopTactic
import Derived.OwnWalk
import Derived.Outline
import Derived.WalkLawsBesides
import Derived.WalkSpells
import Derived.Handy
import Derived.BigQuiet
import Derived.Deep.QuietTactic
import Derived.Deep.RegionHeld3
import Derived.Maps.RangeWalk
import Derived.IntWalk
namespace Go.Proofs.Ytmehcogaopackaa
open Go.RowKit Go.Maps Go.WideMaps
set_option linter.unusedVariables false
set_option linter.unusedSimpArgs false
theorem off_any {W : World} {p : Nat} {F : List Nat} {d : Ds} (h : DkAt W p F d) :
    Calls Try.prog 40 #[.pointer (some ⟨p, 0, none⟩)] W fun e w' => e = .returned (.bool d.off) ∧ W = w' := by
  obtain ⟨bs, bl, vp, xs, h1, _⟩ := h
  obtain ⟨cap, seen, lasts, pend, fused, left⟩ := d
  have c4 : W.cell? ⟨p, 4, none⟩ = some (.bool fused) := cell_in h1 4 _ rfl
  have c5 : W.cell? ⟨p, 5, none⟩ = some (.int .i64 left) := cell_in h1 5 _ rfl
  clear h1
  unfold Ds.off
  cases fused
  · go_enter Try.func40, Try.ntmps40
    go_wp2_with fail
    go_ret
    exact ⟨rfl, rfl⟩
  · by_cases hl : left ≤ 0
    · go_enter Try.func40, Try.ntmps40
      go_wp2_with fail
      go_ret
      exact ⟨by simp [hl], rfl⟩
    · go_enter Try.func40, Try.ntmps40
      go_wp2_with fail
      go_ret
      exact ⟨by simp [hl], rfl⟩
theorem spend_any {W : World} {p : Nat} {F : List Nat} {d : Ds} (h : DkAt W p F d) (hl : d.fused = true → 1 ≤ d.left ∧ d.left ≤ 9223372036854775807) :
    Calls Try.prog 71 #[.pointer (some ⟨p, 0, none⟩)] W fun e w' => e = .returned (.tuple #[]) ∧ DkAt w' p F d.spend ∧ Turn [p] W w' := by
  obtain ⟨cap, seen, lasts, pend, fused, left⟩ := d
  have H := hid h
  obtain ⟨bs, bl, vp, xs, h1, h2, h3, h4, h5, h6, h7, h8, h9, h10, h11⟩ := h
  have c4 : W.cell? ⟨p, 4, none⟩ = some (.bool fused) := cell_in h1 4 _ rfl
  have c5 : W.cell? ⟨p, 5, none⟩ = some (.int .i64 left) := cell_in h1 5 _ rfl
  have f5 := free_in h1 5
  have HS : Hid (fused = true → DkAt (W.setCell ⟨p, 5, none⟩ (.int .i64 (left - 1))) p F ⟨cap, seen, lasts, pend, fused, left - 1⟩) := fun _ => DkAt.mk_set h1 rfl h2 h3 h4 h5 h6 h7 h8 h9 h10 h11
  clear h1 h2 h3 h4 h5 h6 h8 h9 h10 h11
  unfold Ds.spend
  cases fused
  · clear hl
    go_enter Try.func71, Try.ntmps71
    go_wp2_with fail
    go_end0
    exact ⟨rfl, H.out, .refl _ _⟩
  · obtain ⟨hl1, hl2⟩ := hl rfl
    simp only at hl1 hl2
    clear hl
    go_enter Try.func71, Try.ntmps71
    go_wp2_with fail
    go_end0
    exact ⟨rfl, HS.out (by simp), .set _ _ _ _ (by simp)⟩
theorem fuse_any {W : World} {p : Nat} {F : List Nat} {d : Ds} (h : DkAt W p F d) (n : Int) :
    Calls Try.prog 15 #[.pointer (some ⟨p, 0, none⟩), .int .i64 n] W fun e w' => e = .returned (.tuple #[]) ∧ DkAt w' p F (d.fuse n) ∧ Turn [p] W w' := by
  obtain ⟨cap, seen, lasts, pend, fused, left⟩ := d
  obtain ⟨bs, bl, vp, xs, h1, h2, h3, h4, h5, h6, h7, h8, h9, h10, h11⟩ := h
  have c4 : W.cell? ⟨p, 4, none⟩ = some (.bool fused) := cell_in h1 4 _ rfl
  have c5 : W.cell? ⟨p, 5, none⟩ = some (.int .i64 left) := cell_in h1 5 _ rfl
  have f4 := free_in h1 4
  have f5 := free_in h1 5
  have HS := hid (DkAt.mk_set (d' := ⟨cap, seen, lasts, pend, decide (0 ≤ n), left⟩) h1 (o := 4) (v := .bool (decide (0 ≤ n))) rfl h2 h3 h4 h5 h6 h7 h8 h9 h10 h11)
  clear h1 h2 h3 h4 h5 h6 h8 h9 h10 h11
  unfold Ds.fuse
  go_enter Try.func15, Try.ntmps15
  go_wp2_with fail
  go_end0
  have h := HS.out
  obtain ⟨bs, bl, vp, xs, h1, h2, h3, h4, h5, h6, h7, h8, h9, h10, h11⟩ := h
  exact ⟨rfl, DkAt.mk_set h1 rfl h2 h3 h4 h5 h6 h7 h8 h9 h10 h11, (Turn.set W p 4 _ (by simp)).trans (Turn.set _ p 5 _ (by simp)) (fun b h => .inl h)⟩
theorem read_any {W : World} {p : Nat} {F : List Nat} {d : Ds} (h : DkAt W p F d) :
    Calls Try.prog 22 #[.pointer (some ⟨p, 0, none⟩), .string { data := #[108, 111, 103] }] W fun e w' => e = .returned (.tuple #[.string (str d.read.1), .int .i64 (d.read.2 : Nat)]) ∧ W = w' := by
  have HO := hid (off_any h)
  obtain ⟨cap, seen, lasts, pend, fused, left⟩ := d
  obtain ⟨bs, bl, vp, xs, h1, h2, _⟩ := h
  have c1 : W.cell? ⟨p, 1, none⟩ = some (.map (some bs)) := cell_in h1 1 _ rfl
  have hlk := h2.look_ok
  clear h1 h2
  have HD : Hid (Ds.read ⟨cap, seen, lasts, pend, fused, left⟩ = if Ds.off ⟨cap, seen, lasts, pend, fused, left⟩ then ([], 8) else match seen with | none => ([], 6) | some b => (b, 0)) := by show _ = _; rfl
  generalize Ds.off ⟨cap, seen, lasts, pend, fused, left⟩ = o at HO HD
  generalize Ds.read ⟨cap, seen, lasts, pend, fused, left⟩ = r at HD ⊢
  cases o
  · cases seen with
    | none =>
      simp only [Option.getD_none, Option.isSome_none] at hlk
      go_enter Try.func22, Try.ntmps22
      go_wp2_with fail
      refine Calls.mono HO.out ?_
      rintro e w1 ⟨rfl, rfl⟩
      go_wp2_with fail
      go_ret2
      rw [HD.out]
      exact ⟨rfl, rfl⟩
    | some b =>
      simp only [Option.getD_some, Option.isSome_some] at hlk
      go_enter Try.func22, Try.ntmps22
      go_wp2_with fail
      refine Calls.mono HO.out ?_
      rintro e w1 ⟨rfl, rfl⟩
      go_wp2_with fail
      go_ret2
      rw [HD.out]
      exact ⟨rfl, rfl⟩
  · clear hlk
    go_enter Try.func22, Try.ntmps22
    go_wp2_with fail
    refine Calls.mono HO.out ?_
    rintro e w1 ⟨rfl, rfl⟩
    go_wp2_with fail
    go_ret2
    rw [HD.out]
    exact ⟨rfl, rfl⟩
/-- what Used tells -/
theorem used_any {W : World} {p : Nat} {F : List Nat} {d : Ds} (h : DkAt W p F d) (hd : d.used ≤ 1099511627776) :
    Calls Try.prog 72 #[.pointer (some ⟨p, 0, none⟩)] W fun e w' => e = .returned (.int .i64 (d.used : Nat)) ∧ Below W.heap.size W w' := by
  obtain ⟨cap, seen, lasts, pend, fused, left⟩ := d
  obtain ⟨bs, bl, vp, xs, h1, h2, _⟩ := h
  have c1 : W.cell? ⟨p, 1, none⟩ = some (.map (some bs)) := cell_in h1 1 _ rfl
  have H2 := hid h2
  have hsz : lenO seen ≤ 1099511627776 := hd
  show Calls _ _ _ _ fun e w' => e = .returned (.int .i64 (lenO seen : Nat)) ∧ Below W.heap.size W w'
  have hlt := h2.lt
  clear h1 h2 hd
  go_enter Try.func72, Try.ntmps72
  go_wp2_with (at_range; refine wpList_range_own _ rfl _ 83 rfl 9 9 law9 Try.underlying83 _ bs 1 _ rfl H2.out ?_; intro w0 hrg0 hg0 hs0)
  first | go_frame | skip
  have hB0 : Below W.heap.size W w0 := (Below.refl _ _).grown hg0 (Nat.le_refl _) (fun j hj => by cases hj)
  have hlen : lenO seen = (match seen with | none => 0 | some b => b.length) := by cases seen <;> rfl
  go_loopw [3, 5] (fun vn _ wr => ∃ (left : Lit → Bool) (cnt : Nat), wr.ranges Try.prog 9 (plainElem Try.prog 9) bs W.heap.size 1 (DM seen) left cnt ∧ Below W.heap.size W wr ∧ ((vn = .int .i64 (0 : Nat) ∧ left = Maps.has (DM seen)) ∨ (vn = .int .i64 (lenO seen : Nat) ∧ ∀ kl, left kl = false)))
    (fun _ _ wr => wr.rangeLeft bs W.heap.size)
  case atStart => exact ⟨_, _, hrg0, hB0, .inl ⟨rfl, rfl⟩⟩
  case round =>
    obtain ⟨left', cnt, hrg, hB, hcase⟩ := hrel
    have HL : Hid (∀ b, seen = some b → lenO seen = b.length) := fun b hb => by rw [hb]; rfl
    have HN : Hid (lenO seen = 0 ∨ ∃ b, seen = some b) := by cases seen with | none => exact .inl rfl | some b => exact .inr ⟨b, rfl⟩
    clear hlen
    have hn1 : W.heap.size ≤ wr.heap.size := hB.size
    rcases hcase with ⟨rfl, rfl⟩ | ⟨rfl, hall⟩
    · have HN0 : Hid ((∀ kl, Maps.has (DM seen) kl = false) → lenO seen = 0) := fun hl => by
        rcases HN.out with h | ⟨b, hb⟩
        · exact h
        · have := hl (.string logB)
          rw [DM_has, hb] at this
          cases this
      have HN1 : Hid (∀ kl, (Maps.has (DM seen) kl && !kl.sameKey (.string logB)) = false) := fun kl => by
        cases hh : Maps.has (DM seen) kl
        · rfl
        · rw [DM_key seen kl hh]; rfl
      go_wp2_with (at_next; refine wpList_next_log _ rfl _ rfl bs W.heap.size seen _ _ rfl hrg ?_ ?_)
      · intro hl0
        have HV := hid (HN0.out hl0)
        clear hl0
        go_wp2_with fail
        go_ret
        rw [HV.out]
        exact ⟨rfl, hB⟩
      · intro c w1 cnt1 hsc hl1 hrg1 hlt1 hg1 hs1 hen
        have HV := hid (HL.out c hsc)
        have hcl : c.length ≤ 1099511627776 := by have := HV.out; omega
        have hzc : (str c).size = c.length := str_size _
        have hB1 := hB.grown hg1 hn1 (fun j hj => by cases hj; exact Nat.le_refl _)
        clear hsc hl1
        go_wp2_with fail
        go_roundw
        case rel => exact ⟨_, cnt1, hrg1, hB1, .inr ⟨by rw [HV.out], HN1.out⟩⟩
        case measure => rw [hrg1.left_eq, hrg.left_eq]; exact hlt1
    · have HA := hid hall
      clear hall
      go_wp2_with (at_next; refine wpList_next_log _ rfl _ rfl bs W.heap.size seen _ _ rfl hrg ?_ ?_)
      · intro hl0
        clear hl0
        go_wp2_with fail
        go_ret
        exact ⟨rfl, hB⟩
      · intro c w1 cnt1 hsc hl1 hrg1 hlt1 hg1 hs1 hen
        rw [HA.out] at hl1
        cases hl1
theorem DkAt.len {W : World} {p : Nat} {F : List Nat} {d : Ds} (h : DkAt W p F d) : lenO d.seen ≤ maxLen ∧ lenO d.lasts ≤ maxLen := by
  obtain ⟨bs, bl, vp, xs, h1, h2, h3, _⟩ := h
  exact ⟨h2.len, h3.len⟩
/-- what may tells -/
theorem may_any {W : World} {p : Nat} {F : List Nat} {d : Ds} (h : DkAt W p F d) (hd : d.used ≤ 1099511627776) (nm : Bytes) (hn0 : nm ≠ []) (hn1 : nm.length ≤ 80) (more : Int) (hm0 : -1099511627776 ≤ more) (hm1 : more ≤ 1099511627776) :
    Calls Try.prog 47 #[.pointer (some ⟨p, 0, none⟩), .string (str nm), .int .i64 more] W fun e w' => e = .returned (.int .i64 (d.may more : Nat)) ∧ Below W.heap.size W w' := by
  have HO := hid (off_any h)
  have HU : Hid (∀ W1 : World, Below W.heap.size W W1 → Calls Try.prog 72 #[.pointer (some ⟨p, 0, none⟩)] W1 fun e w' => e = .returned (.int .i64 (d.used : Nat)) ∧ Below W.heap.size W w') := fun W1 hb => (used_any (h.below hb) hd).mono fun _ _ ⟨e, g⟩ => ⟨e, hb.trans (g.mono hb.size)⟩
  have hpl := h.lt p h.mem
  have hzn : (str nm).size = nm.length := str_size _
  have hne : (str nm).toList = nm := by rw [ByteArray.toList_eq]; rfl
  have hcap : Hid (∃ bs bl vp xs, W.heap[p]? = some (.cells (dkCells d bs bl vp) 86) ∧ xs = ([] : List Value)) := by
    obtain ⟨bs, bl, vp, xs, h1, _⟩ := h
    exact ⟨bs, bl, vp, [], h1, rfl⟩
  obtain ⟨bs, bl, vp, _, h1, _⟩ := hcap.out
  have c0 : W.cell? ⟨p, 0, none⟩ = some (.int .i64 (d.cap : Nat)) := cell_in h1 0 _ rfl
  clear h1 hcap
  have hne1 : (str nm).toList.isEmpty = false := by rw [hne]; cases nm with | nil => exact absurd rfl hn0 | cons => rfl
  have HM : Hid (d.may more = if d.off then 8 else if (d.cap : Int) < (d.used : Int) + more then 7 else 0) := by show _ = _; rfl
  have HC := hid (fun (W1 : World) (hb : Below W.heap.size W W1) => show W1.cell? ⟨p, 0, none⟩ = some (.int .i64 (d.cap : Nat)) from (hb.cell (p := ⟨p, 0, none⟩) hpl).trans c0)
  clear h hne hn0
  generalize d.may more = m at HM ⊢
  generalize d.off = o at HO HM
  cases o
  · generalize d.used = u at *
    generalize d.cap = cap at *
    have hws : IntKind.i64.wrap ((u : Int) + more) = (u : Int) + more := IntWalk.i64_in _ (by omega)
    by_cases hc : (cap : Int) < (u : Int) + more
    · have hc1 : (u : Int) + more > (cap : Int) := hc
      rw [if_neg (by simp), if_pos hc] at HM
      go_enter Try.func47, Try.ntmps47
      go_wp2_with fail
      refine Calls.mono HO.out ?_
      rintro e w1 ⟨rfl, rfl⟩
      go_wp2_with fail
      go_region_held3 (fun W' => W'.cell? ⟨p, 0, none⟩ = some (.int .i64 (cap : Nat))) (first | exact c0 | exact HC.out _ hb')
        ((go_at_call 72; refine Calls.mono (HU.out _ (by exact (Below.refl _ _).drew)) ?_; rintro e w' ⟨rfl, hb'⟩))
      go_wp2_with fail
      go_ret
      rw [HM.out]
      exact ⟨rfl, hb'⟩
    · have hc1 : (u : Int) + more ≤ (cap : Int) := Int.not_lt.1 hc
      rw [if_neg (by simp), if_neg hc] at HM
      go_enter Try.func47, Try.ntmps47
      go_wp2_with fail
      refine Calls.mono HO.out ?_
      rintro e w1 ⟨rfl, rfl⟩
      go_wp2_with fail
      go_region_held3 (fun W' => W'.cell? ⟨p, 0, none⟩ = some (.int .i64 (cap : Nat))) (first | exact c0 | exact HC.out _ hb')
        ((go_at_call 72; refine Calls.mono (HU.out _ (by exact (Below.refl _ _).drew)) ?_; rintro e w' ⟨rfl, hb'⟩))
      go_wp2_with fail
      go_ret
      rw [HM.out]
      exact ⟨rfl, hb'⟩
  · go_enter Try.func47, Try.ntmps47
    go_wp2_with fail
    refine Calls.mono HO.out ?_
    rintro e w1 ⟨rfl, rfl⟩
    go_wp2_with fail
    go_ret
    rw [HM.out]
    exact ⟨rfl, Below.refl _ _⟩
end Go.Proofs.Ytmehcogaopackaa
