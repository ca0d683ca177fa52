/-
  DERIVED: THE SHELF's CONTRACTS AT THIS DUMP, IN PLAIN WORDS (tools/lay-plain.mjs out of 'TryzShelf.lean', which tools/lay-shelf.mjs wrote): THE SAME DECLARATIONS UNDER THE SAME NAMES: 'import', 'namespace', 'open', 'def', 'theorem' AND NOTHING ELSE: no command of the shelf's: FOR A HAND-IN. Each laying: the table of numbers ('.._ren') and one theorem, a field a fact of the dump's own or the kernel's comparison; each contract: ONE APPLICATION.
-/
import Derived.Shelf.SlGeneric
import Derived.Ground.SlsfProg
import Derived.Shelf.SlSortCmp.Whole1
import Derived.Shelf.SlSortCmp.NoneTotal
import Derived.Shelf.Strings.Builder1
import Derived.Shelf.Small.Bits
import Derived.Shelf.Small.Strs
import Derived.Shelf.Small.Wraps
import Derived.Shelf.Strconv.Itoa0
import Derived.Ground.Names2Prog
import Derived.Shelf.Slices.SearchI
import Derived.Test.YtgdochemlbjnlaaGreatProg
namespace Go.Proofs
open Go.Shelf
def Tryz.lays106_ren : Go.Shelf.Ren := ⟨fun | 106 => 72 | 213 => 86 | 265 => 103 | n => n, fun | 9 => 9 | 3 => 3 | n => n, fun | n => n⟩
theorem Tryz.lays106 : Go.Proofs.Lays.n106 Tryz.prog Tryz.lays106_ren := {
  mixed := by kernel_rfl
  f106 := Tryz.func72.trans (congrArg some (by kernel_rfl))
  f213 := Tryz.func86.trans (congrArg some (by kernel_rfl))
  f265 := Tryz.func103.trans (congrArg some (by kernel_rfl))
  t3 := Tryz.underlying3
  a3 := Tryz.isAgg3
  z3 := Tryz.sizeOf3
  v3 := Tryz.zeroValue3
  t9 := Tryz.underlying9
  a9 := Tryz.isAgg9
  z9 := Tryz.sizeOf9
  v9 := Tryz.zeroValue9 }
open Go.RowKit in
theorem Tryz.strings_Compare (a b : ByteArray) (w : World) :
    Calls Tryz.prog 72 #[.string a, .string b] w fun e w' => e = .returned (.int .i64 (Lib.compareBytes a.data.toList b.data.toList)) ∧ w' = w := Any.strings_Compare Tryz.lays106 a b w
def Tryz.sortN_ren : Go.Shelf.Ren := ⟨fun | 6 => 70 | 15 => 85 | 14 => 84 | 28 => 101 | 29 => 102 | 20 => 93 | 21 => 94 | 22 => 95 | 23 => 96 | 24 => 97 | 25 => 98 | 26 => 99 | 27 => 100 | 46 => 104 | 47 => 105 | 48 => 106 | 49 => 107 | 50 => 108 | 57 => 109 | n => n, fun | 22 => 51 | 24 => 49 | 25 => 111 | 3 => 3 | 39 => 129 | 0 => 0 | 53 => 143 | 55 => 145 | 4 => 4 | 46 => 136 | 45 => 135 | 50 => 140 | 5 => 5 | 9 => 9 | 66 => 146 | 70 => 67 | 76 => 151 | 77 => 119 | n => n, fun | n => n⟩
theorem Tryz.sortN : Go.Proofs.SlLaysF.n6 Tryz.prog Tryz.sortN_ren := {
  mixed := by kernel_rfl
  f6 := ⟨Tryz.f70.name, by decide, Tryz.func70.trans (congrArg some (by kernel_rfl))⟩
  f14 := ⟨Tryz.f84.name, by decide, Tryz.func84.trans (congrArg some (by kernel_rfl))⟩
  f15 := Tryz.func85.trans (congrArg some (by kernel_rfl))
  f20 := ⟨Tryz.f93.name, by decide, Tryz.func93.trans (congrArg some (by kernel_rfl))⟩
  f21 := ⟨Tryz.f94.name, by decide, Tryz.func94.trans (congrArg some (by kernel_rfl))⟩
  f22 := ⟨Tryz.f95.name, by decide, Tryz.func95.trans (congrArg some (by kernel_rfl))⟩
  f23 := ⟨Tryz.f96.name, by decide, Tryz.func96.trans (congrArg some (by kernel_rfl))⟩
  f24 := ⟨Tryz.f97.name, by decide, Tryz.func97.trans (congrArg some (by kernel_rfl))⟩
  f25 := ⟨Tryz.f98.name, by decide, Tryz.func98.trans (congrArg some (by kernel_rfl))⟩
  f26 := ⟨Tryz.f99.name, by decide, Tryz.func99.trans (congrArg some (by kernel_rfl))⟩
  f27 := ⟨Tryz.f100.name, by decide, Tryz.func100.trans (congrArg some (by kernel_rfl))⟩
  f28 := Tryz.func101.trans (congrArg some (by kernel_rfl))
  f29 := Tryz.func102.trans (congrArg some (by kernel_rfl))
  f46 := ⟨Tryz.f104.name, by decide, Tryz.func104.trans (congrArg some (by kernel_rfl))⟩
  f47 := Tryz.func105.trans (congrArg some (by kernel_rfl))
  f48 := Tryz.func106.trans (congrArg some (by kernel_rfl))
  f49 := ⟨Tryz.f107.name, by decide, Tryz.func107.trans (congrArg some (by kernel_rfl))⟩
  f50 := ⟨Tryz.f108.name, by decide, Tryz.func108.trans (congrArg some (by kernel_rfl))⟩
  f57 := ⟨Tryz.f109.name, by decide, Tryz.func109.trans (congrArg some (by kernel_rfl))⟩
  t0 := Tryz.underlying0
  a0 := Tryz.isAgg0
  z0 := Tryz.sizeOf0
  v0 := Tryz.zeroValue0
  t3 := Tryz.underlying3
  a3 := Tryz.isAgg3
  z3 := Tryz.sizeOf3
  v3 := Tryz.zeroValue3
  t4 := Tryz.underlying4
  a4 := Tryz.isAgg4
  z4 := Tryz.sizeOf4
  v4 := Tryz.zeroValue4
  t5 := Tryz.underlying5
  a5 := Tryz.isAgg5
  z5 := Tryz.sizeOf5
  v5 := Tryz.zeroValue5
  t9 := Tryz.underlying9
  a9 := Tryz.isAgg9
  z9 := Tryz.sizeOf9
  v9 := Tryz.zeroValue9
  t22 := Tryz.underlying51
  a22 := Tryz.isAgg51
  z22 := Tryz.sizeOf51
  v22 := Tryz.zeroValue51
  a24 := Tryz.isAgg49
  z24 := Tryz.sizeOf49
  t25 := Tryz.underlying111
  a25 := Tryz.isAgg111
  z25 := Tryz.sizeOf111
  v25 := Tryz.zeroValue111
  t39 := Tryz.underlying129
  a39 := Tryz.isAgg129
  z39 := Tryz.sizeOf129
  v39 := Tryz.zeroValue129
  t45 := Tryz.underlying135
  a45 := Tryz.isAgg135
  z45 := Tryz.sizeOf135
  v45 := Tryz.zeroValue135
  t46 := Tryz.underlying136
  a46 := Tryz.isAgg136
  z46 := Tryz.sizeOf136
  v46 := Tryz.zeroValue136
  t50 := Tryz.underlying140
  a50 := Tryz.isAgg140
  z50 := Tryz.sizeOf140
  v50 := Tryz.zeroValue140
  t53 := Tryz.underlying143
  a53 := Tryz.isAgg143
  z53 := Tryz.sizeOf143
  v53 := Tryz.zeroValue143
  t55 := Tryz.underlying145
  a55 := Tryz.isAgg145
  z55 := Tryz.sizeOf145
  v55 := Tryz.zeroValue145
  t66 := Tryz.underlying146
  a66 := Tryz.isAgg146
  z66 := Tryz.sizeOf146
  v66 := Tryz.zeroValue146
  t70 := Tryz.underlying67
  a70 := Tryz.isAgg67
  z70 := Tryz.sizeOf67
  v70 := Tryz.zeroValue67
  t76 := Tryz.underlying151
  a76 := Tryz.isAgg151
  z76 := Tryz.sizeOf151
  v76 := Tryz.zeroValue151
  t77 := Tryz.underlying119
  a77 := Tryz.isAgg119
  z77 := Tryz.sizeOf119
  v77 := Tryz.zeroValue119 }
end Go.Proofs
