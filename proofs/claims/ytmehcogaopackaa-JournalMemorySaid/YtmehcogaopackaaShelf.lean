/-
  DERIVED: THE SHELF's CONTRACTS AT THIS DUMP, IN PLAIN WORDS (tools/lay-plain.mjs out of 'TryShelf.lean', which tools/lay-shelf.mjs wrote): THE SAME DECLARATIONS UNDER THE SAME NAMES: 'import', 'namespace', 'open', 'def', 'theorem' AND NOTHING ELSE: no command of the shelf's: FOR A HAND-IN. Each laying: the table of numbers ('.._ren') and one theorem, a field a fact of the dump's own or the kernel's comparison; each contract: ONE APPLICATION.
-/
import Derived.Shelf.Strings.OnBuilder
import Derived.Ground.SlgnProg
import Derived.Shelf.SlicesE.Clone
import Derived.Shelf.SlMaps.Clone
import Derived.Test.YtmehcogaopackaaProg
namespace Go.Proofs
open Go.Shelf
def Try.lays156_ren : Go.Shelf.Ren := ⟨fun | 156 => 45 | 165 => 67 | 166 => 68 | 169 => 69 | 240 => 80 | 241 => 81 | 276 => 85 | 277 => 86 | n => n, fun | 31 => 66 | 9 => 9 | 3 => 3 | 4 => 4 | 0 => 0 | 20 => 20 | 72 => 122 | 76 => 125 | 70 => 120 | 37 => 116 | 75 => 124 | 127 => 141 | 164 => 145 | 5 => 5 | 80 => 57 | n => n, fun | n => n⟩
theorem Try.lays156 : Go.Proofs.Lays.n156 Try.prog Try.lays156_ren := {
  mixed := by kernel_rfl
  f156 := Try.func45.trans (congrArg some (by kernel_rfl))
  f165 := Try.func67.trans (congrArg some (by kernel_rfl))
  f166 := Try.func68.trans (congrArg some (by kernel_rfl))
  f169 := Try.func69.trans (congrArg some (by kernel_rfl))
  f240 := Try.func80.trans (congrArg some (by kernel_rfl))
  f241 := Try.func81.trans (congrArg some (by kernel_rfl))
  f276 := Try.func85.trans (congrArg some (by kernel_rfl))
  f277 := Try.func86.trans (congrArg some (by kernel_rfl))
  t0 := Try.underlying0
  a0 := Try.isAgg0
  z0 := Try.sizeOf0
  v0 := Try.zeroValue0
  t3 := Try.underlying3
  a3 := Try.isAgg3
  z3 := Try.sizeOf3
  v3 := Try.zeroValue3
  t4 := Try.underlying4
  a4 := Try.isAgg4
  z4 := Try.sizeOf4
  v4 := Try.zeroValue4
  t9 := Try.underlying9
  a9 := Try.isAgg9
  z9 := Try.sizeOf9
  v9 := Try.zeroValue9
  t20 := Try.underlying20
  a20 := Try.isAgg20
  z20 := Try.sizeOf20
  v20 := Try.zeroValue20
  t31 := Try.underlying66
  a31 := Try.isAgg66
  z31 := Try.sizeOf66
  v31 := Try.zeroValue66
  t37 := Try.underlying116
  a37 := Try.isAgg116
  z37 := Try.sizeOf116
  v37 := Try.zeroValue116
  t70 := Try.underlying120
  a70 := Try.isAgg120
  z70 := Try.sizeOf120
  v70 := Try.zeroValue120
  t72 := Try.underlying122
  a72 := Try.isAgg122
  z72 := Try.sizeOf122
  v72 := Try.zeroValue122
  t75 := Try.underlying124
  a75 := Try.isAgg124
  z75 := Try.sizeOf124
  v75 := Try.zeroValue124
  t76 := Try.underlying125
  a76 := Try.isAgg125
  z76 := Try.sizeOf125
  v76 := Try.zeroValue125
  t127 := Try.underlying141
  a127 := Try.isAgg141
  z127 := Try.sizeOf141
  v127 := Try.zeroValue141
  t164 := Try.underlying145
  a164 := Try.isAgg145
  z164 := Try.sizeOf145
  v164 := Try.zeroValue145 }
theorem Try.Builder_Extra_156 : Builder.Extra Try.prog Try.lays156_ren := {
  sizeBuilder := by kernel_rfl
  liesBuilder := by kernel_rfl
  t5 := Try.underlying5
  a5 := Try.isAgg5
  z5 := Try.sizeOf5
  v5 := Try.zeroValue5
  infoByte := by kernel_rfl
  cellsByte := by kernel_rfl
  sizeByte := by kernel_rfl
  neB5 := by decide }
open Go.RowKit in
theorem Try.strings_Join (bk o c : Nat) (xs : List ByteArray) (sep : ByteArray) (w : World) (hcells : ∀ (j : Nat) x, xs[j]? = some x → w.cell? ⟨bk, o + j, none⟩ = some (.string x)) (hbk : bk < w.heap.size) (hN : xs.length ≤ 140737488355328) (hcap : xs.length ≤ c) (hlen : (Lib.join (xs.map (·.data.toList)) sep.data.toList).length ≤ 140737488355328) :
    Calls Try.prog 45 #[.slice (some ⟨bk, o, none⟩) xs.length c, .string sep] w fun e w' => e = .returned (.string ⟨(Lib.join (xs.map (·.data.toList)) sep.data.toList).toArray⟩) ∧ Below w.heap.size w w' := Any.strings_Join Try.lays156 Try.Builder_Extra_156 bk o c xs sep w hcells hbk hN hcap hlen
def Try.laysClone_int_ren : Go.Shelf.Ren := ⟨fun | 41 => 64 | n => n, fun | 22 => 26 | 23 => 3 | 4 => 4 | n => n, fun | n => n⟩
theorem Try.laysClone_int : Go.Proofs.SlLaysE0.n41 Try.prog Try.laysClone_int_ren := {
  mixed := by kernel_rfl
  f41 := ⟨Try.f64.name, by decide, Try.func64.trans (congrArg some (by kernel_rfl))⟩
  t4 := Try.underlying4
  a4 := Try.isAgg4
  z4 := Try.sizeOf4
  v4 := Try.zeroValue4
  t22 := Try.underlying26
  a22 := Try.isAgg26
  z22 := Try.sizeOf26
  v22 := Try.zeroValue26 }
open Go.RowKit Go.Lib in
theorem Try.slices_Clone_int (i0 : TypeInfo) (z : Value) (size bytes : Nat) (hi : Try.prog.info? 3 = some i0) (hz0 : i0.zero = some z) (hz1 : i0.size = size) (hz2 : i0.bytes = bytes) (hzs : z.cells.size = size) (hsz : 0 < size) (z23 : ∀ w, (Go.sizeOf 3).run Try.prog w = .ok size w) (b off n c : Nat) (news : List Value) (w : World) (hl : news.length = n * size) (hn : n ≤ maxLen) (hbig : n * bytes ≤ 140737488355328) (hc : ∀ j u, news[j]? = some u → w.cell? ⟨b, off + j, none⟩ = some u) (h1 : ∀ u ∈ news, u.oneCell' = true) :
    Calls Try.prog 64 #[.slice (some ⟨b, off, none⟩) n c] w fun e w' => ∃ v', e = .returned v' ∧ w'.ownsRow w.heap.size 3 size v' n news ∧ v' ≠ .slice none 0 0 ∧ Below w.heap.size w w' := AnyE.slices_Clone Try.laysClone_int i0 z size bytes hi hz0 hz1 hz2 hzs hsz z23 b off n c news w hl hn hbig hc h1
open Go.RowKit Go.Lib in
theorem Try.slices_Clone_int_nil (n c : Nat) (w : World) :
    Calls Try.prog 64 #[.slice none n c] w fun e w' => e = .returned (.slice none 0 0) ∧ w' = w := AnyE.slices_Clone_nil Try.laysClone_int n c w
def Try.laysClone_entry_ren : Go.Shelf.Ren := ⟨fun | 41 => 36 | n => n, fun | 22 => 27 | 23 => 50 | 4 => 4 | n => n, fun | n => n⟩
theorem Try.laysClone_entry : Go.Proofs.SlLaysE0.n41 Try.prog Try.laysClone_entry_ren := {
  mixed := by kernel_rfl
  f41 := ⟨Try.f36.name, by decide, Try.func36.trans (congrArg some (by kernel_rfl))⟩
  t4 := Try.underlying4
  a4 := Try.isAgg4
  z4 := Try.sizeOf4
  v4 := Try.zeroValue4
  t22 := Try.underlying27
  a22 := Try.isAgg27
  z22 := Try.sizeOf27
  v22 := Try.zeroValue27 }
open Go.RowKit Go.Lib in
theorem Try.slices_Clone_entry (i0 : TypeInfo) (z : Value) (size bytes : Nat) (hi : Try.prog.info? 50 = some i0) (hz0 : i0.zero = some z) (hz1 : i0.size = size) (hz2 : i0.bytes = bytes) (hzs : z.cells.size = size) (hsz : 0 < size) (z23 : ∀ w, (Go.sizeOf 50).run Try.prog w = .ok size w) (b off n c : Nat) (news : List Value) (w : World) (hl : news.length = n * size) (hn : n ≤ maxLen) (hbig : n * bytes ≤ 140737488355328) (hc : ∀ j u, news[j]? = some u → w.cell? ⟨b, off + j, none⟩ = some u) (h1 : ∀ u ∈ news, u.oneCell' = true) :
    Calls Try.prog 36 #[.slice (some ⟨b, off, none⟩) n c] w fun e w' => ∃ v', e = .returned v' ∧ w'.ownsRow w.heap.size 50 size v' n news ∧ v' ≠ .slice none 0 0 ∧ Below w.heap.size w w' := AnyE.slices_Clone Try.laysClone_entry i0 z size bytes hi hz0 hz1 hz2 hzs hsz z23 b off n c news w hl hn hbig hc h1
open Go.RowKit Go.Lib in
theorem Try.slices_Clone_entry_nil (n c : Nat) (w : World) :
    Calls Try.prog 36 #[.slice none n c] w fun e w' => e = .returned (.slice none 0 0) ∧ w' = w := AnyE.slices_Clone_nil Try.laysClone_entry n c w
def Try.cloneM_ren : Go.Shelf.Ren := ⟨fun | 5 => 70 | 7 => 82 | n => n, fun | 23 => 83 | 25 => 9 | 3 => 9 | 4 => 4 | 20 => 20 | n => n, fun | n => n⟩
theorem Try.cloneM : Go.Proofs.SlLaysW.n5 Try.prog Try.cloneM_ren := {
  mixed := by kernel_rfl
  f5 := ⟨Try.f70.name, by decide, Try.func70.trans (congrArg some (by kernel_rfl))⟩
  f7 := Try.func82.trans (congrArg some (by kernel_rfl))
  t4 := Try.underlying4
  a4 := Try.isAgg4
  z4 := Try.sizeOf4
  v4 := Try.zeroValue4
  t20 := Try.underlying20
  a20 := Try.isAgg20
  z20 := Try.sizeOf20
  v20 := Try.zeroValue20
  t23 := Try.underlying83
  a23 := Try.isAgg83
  z23 := Try.sizeOf83
  v23 := Try.zeroValue83 }
open Go.RowKit Go.Maps in
theorem Try.maps_Clone {H : Type} (k : TypeId) (R : Value → Option (DataW H × List MemPlace)) (b n : Nat) (D : DataW H) (w : World) (hown : w.ownsMap Try.prog k R b n D) :
    Calls Try.prog 70 #[.map (some b)] w fun e w' => e = .returned (.map (some w.heap.size)) ∧ w'.ownsMap Try.prog k R w.heap.size n D ∧ w'.ownsMap Try.prog k R b n D ∧ Below w.heap.size w w' := AnyW.maps_Clone_owns Try.cloneM k R b n D w hown
end Go.Proofs
