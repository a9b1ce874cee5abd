/-
  The walks of the journal's must, vote, piece: a record that is read into the state in block k.
-/
import Derived.Test.YtmehcogaopackaaJWhole
import Derived.Test.YtmehcogaopackaaWJR
import Derived.Test.YtmehcogaopackaaPend
namespace Go.Proofs.Ytmehcogaopackaa
open Go.RowKit
set_option linter.unusedVariables false
set_option linter.unusedSimpArgs false
/-- what the reading of a record that is not right ends in -/
def fault : List PanicEntry := [{ v := .iface 104 (.agg #[]), recovered := false }]
/-- how a record's reading ends -/
def Said (ok : Bool) (e : Ending) : Prop := e = if ok then .returned (.tuple #[]) else .panicked fault
theorem bodyPost_panic {P : Program} {fn : Func} {R : Ending → World → Prop} {a : Act} {w : World} {c : List PanicEntry} (hd : a.defers = []) (hR : R (.panicked c) w) : bodyPost P fn R (.panic c) a w := ⟨hd, hR⟩
theorem must_ok (w : World) : Calls Try.prog 53 #[.bool true] w fun e w' => e = .returned (.tuple #[]) ∧ w' = w := by
  go_enter Try.func53, Try.ntmps53
  go_wp2_with fail
  go_end0
  exact ⟨rfl, rfl⟩
theorem must_bad (w : World) : Calls Try.prog 53 #[.bool false] w fun e w' => e = .panicked fault ∧ w' = w := by
  go_enter Try.func53, Try.ntmps53
  go_wp2_with fail
  exact bodyPost_panic rfl ⟨rfl, rfl⟩
theorem must_yes {x : Bool} (hx : x = true) (w : World) : Calls Try.prog 53 #[.bool x] w fun e w' => e = .returned (.tuple #[]) ∧ w' = w := by rw [hx]; exact must_ok w
theorem must_no {x : Bool} (hx : x = false) (w : World) : Calls Try.prog 53 #[.bool x] w fun e w' => e = .panicked fault ∧ w' = w := by rw [hx]; exact must_bad w
/-- the cells of a state: z: how many bytes the image must have -/
def stCells (S : Js) (z : Nat) (vc vl : Value) : Array Value := #[.int .u64 S.hard.term, .int .i64 S.hard.vote, .int .u64 S.hard.life, .int .u64 S.log.base, .int .u64 S.log.bterm, vc, vl, .string (str S.image), .int .u64 z]
set_option maxRecDepth 100000 in
set_option maxHeartbeats 1000000 in
theorem vote_any {s : Bytes} {b k : Nat} {w : World} {st st1 st2 st3 : Nat × Nat} {n0 n1 n2 : Nat} (hs : s.length ≤ 1152921504606846976) (E0 : Hid (pNum s st = (n0, st1))) (E1 : Hid (pCount 5 s st1 = (n1, st2))) (E2 : Hid (pNum s st2 = (n2, st3)))
    (x0 x1 x2 x3 x4 x5 x6 x7 x8 : Value) (h : JR s b k 63 w #[x0, x1, x2, x3, x4, x5, x6, x7, x8] st w) :
    Calls Try.prog 56 #[.pointer (some ⟨k, 0, none⟩), .pointer (some ⟨b, 0, none⟩)] w fun e w' => e = .returned (.tuple #[]) ∧ JR s b k 63 w #[.int .u64 n0, .int .i64 n1, .int .u64 n2, x3, x4, x5, x6, x7, x8] st3 w' := by
  have HJ0 := hid h
  clear h
  go_enter Try.func56, Try.ntmps56
  go_wp2_with fail
  refine Calls.mono (jrNum hs E0.out HJ0.out) ?_
  rintro e w1 ⟨rfl, J1, _⟩
  have HJ1 := hid J1
  clear J1 HJ0
  go_wp2_with fail
  refine Calls.mono (jrCount (m := 5) (by decide) hs E1.out HJ1.out) ?_
  rintro e w2 ⟨rfl, J2, _⟩
  have HJ2 := hid J2
  clear J2 HJ1
  go_wp2_with fail
  refine Calls.mono (jrNum hs E2.out HJ2.out) ?_
  rintro e w3 ⟨rfl, J3, _⟩
  have f0 := J3.free 0
  have f1 := J3.free 1
  have f2 := J3.free 2
  have c0 := J3.at 0 _ rfl
  have c1 := J3.at 1 _ rfl
  have c2 := J3.at 2 _ rfl
  have J4 := ((J3.set 0 (.int .u64 n0)).set 1 (.int .i64 n1)).set 2 (.int .u64 n2)
  have HJ4 := hid J4
  clear J3 J4 HJ2
  go_wp2_with fail
  go_end0
  exact ⟨rfl, HJ4.out⟩
set_option maxRecDepth 100000 in
set_option maxHeartbeats 1000000 in
theorem piece_ok {s : Bytes} {b k : Nat} {w : World} {st st1 : Nat × Nat} {p image : Bytes} {z : Nat} (hs : s.length ≤ 1152921504606846976) (E0 : Hid (pText 4096 s st = (p, st1)))
    (hp : p.length ≤ 4096) (hz : z ≤ 262144) (hi : image.length < z) (hm : p.length = min (z - image.length) 4096)
    (x0 x1 x2 x3 x4 x5 x6 : Value) (h : JR s b k 63 w #[x0, x1, x2, x3, x4, x5, x6, .string (str image), .int .u64 z] st w) :
    Calls Try.prog 55 #[.pointer (some ⟨k, 0, none⟩), .pointer (some ⟨b, 0, none⟩)] w fun e w' => e = .returned (.tuple #[]) ∧ JR s b k 63 w #[x0, x1, x2, x3, x4, x5, x6, .string (str (image ++ p)), .int .u64 z] st1 w' := by
  have HJ0 := hid h
  clear h
  have hzi : (str image).size = image.length := str_size _
  have hzp : (str p).size = p.length := str_size _
  have HM := hid hm
  clear hm
  go_enter Try.func55, Try.ntmps55
  go_wp2_with fail
  refine Calls.mono (jrText (m := 4096) (by decide) hs E0.out HJ0.out) ?_
  rintro e w1 ⟨rfl, J1, _⟩
  have f7 := J1.free 7
  have c7 := J1.at 7 (.string (str image)) rfl
  have c8 := J1.at 8 (.int .u64 z) rfl
  have J2 := J1.set 7 (.string (str (image ++ p)))
  have HJ2 := hid J2
  clear J1 J2 HJ0
  have hw1 : IntKind.u64.wrap (image.length : Int) = (image.length : Int) := by rw [IntKind.wrap_u64]; omega
  have hw2 : IntKind.u64.wrap ((z : Int) - (image.length : Int)) = ((z - image.length : Nat) : Int) := by rw [IntKind.wrap_u64]; omega
  go_wp2_with fail
  go_region
  generalize hl : z - image.length = left at *
  have hl0 : (0 : Int) < (left : Int) := by omega
  have hsum : ¬ (9223372036854775807 < image.length + p.length) := by omega
  have hstr : str image ++ str p = str (image ++ p) := str_append _ _
  go_wp2_with fail
  refine Calls.mono (must_yes (by rw [HM.out]; simp only [beq_iff_eq]; omega) _) ?_
  rintro e w2 ⟨rfl, rfl⟩
  go_wp2_with fail
  go_end0
  exact ⟨rfl, HJ2.out⟩
set_option maxRecDepth 100000 in
set_option maxHeartbeats 1000000 in
theorem piece_bad {s : Bytes} {b k : Nat} {w : World} {st st1 : Nat × Nat} {p image : Bytes} {z : Nat} (hs : s.length ≤ 1152921504606846976) (E0 : Hid (pText 4096 s st = (p, st1)))
    (hp : p.length ≤ 4096) (hz : z ≤ 262144) (hi : image.length ≤ z) (hm : ¬ (image.length < z ∧ p.length = min (z - image.length) 4096))
    (x0 x1 x2 x3 x4 x5 x6 : Value) (h : JR s b k 63 w #[x0, x1, x2, x3, x4, x5, x6, .string (str image), .int .u64 z] st w) :
    Calls Try.prog 55 #[.pointer (some ⟨k, 0, none⟩), .pointer (some ⟨b, 0, none⟩)] w fun e w' => e = .panicked fault ∧ JR s b k 63 w #[x0, x1, x2, x3, x4, x5, x6, .string (str image), .int .u64 z] st1 w' := by
  have HJ0 := hid h
  clear h
  have hzi : (str image).size = image.length := str_size _
  have hzp : (str p).size = p.length := str_size _
  have HM := hid hm
  clear hm
  go_enter Try.func55, Try.ntmps55
  go_wp2_with fail
  refine Calls.mono (jrText (m := 4096) (by decide) hs E0.out HJ0.out) ?_
  rintro e w1 ⟨rfl, J1, _⟩
  have f7 := J1.free 7
  have c7 := J1.at 7 (.string (str image)) rfl
  have c8 := J1.at 8 (.int .u64 z) rfl
  have HJ2 := hid J1
  clear J1 HJ0
  have hw1 : IntKind.u64.wrap (image.length : Int) = (image.length : Int) := by rw [IntKind.wrap_u64]; omega
  have hw2 : IntKind.u64.wrap ((z : Int) - (image.length : Int)) = ((z - image.length : Nat) : Int) := by rw [IntKind.wrap_u64]; omega
  go_wp2_with fail
  go_region
  generalize hl : z - image.length = left at *
  by_cases hl0 : left = 0
  · subst hl0
    go_wp2_with fail
    refine Calls.mono (must_no rfl _) ?_
    rintro e w2 ⟨rfl, rfl⟩
    go_wp2_with fail
    exact bodyPost_panic rfl ⟨rfl, HJ2.out⟩
  · have hl1 : (0 : Int) < (left : Int) := by omega
    have hb : ((p.length : Int) == min (left : Int) 4096) = false := by
      have := HM.out
      simp only [beq_eq_false_iff_ne, ne_eq]
      intro e
      exact this ⟨by omega, by omega⟩
    have HB := hid hb
    clear hb
    go_wp2_with fail
    refine Calls.mono (must_no HB.out _) ?_
    rintro e w2 ⟨rfl, rfl⟩
    go_wp2_with fail
    exact bodyPost_panic rfl ⟨rfl, HJ2.out⟩
end Go.Proofs.Ytmehcogaopackaa
