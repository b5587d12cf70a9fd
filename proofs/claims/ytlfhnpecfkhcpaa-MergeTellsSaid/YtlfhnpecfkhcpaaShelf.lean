/-
  DERIVED: THE SHELF's CONTRACTS AT THIS DUMP, IN PLAIN WORDS (tools/lay-plain.mjs out of 'YtlfhnpecfkhcpaaShelfS.lean', which tools/lay-shelf.mjs wrote): THE SAME DECLARATIONS UNDER THE SAME NAMES: 'import', 'namespace', 'open', 'def', 'theorem' AND NOTHING ELSE: no command of the shelf's: FOR A HAND-IN. Each laying: the table of numbers ('.._ren') and one theorem, a field a fact of the dump's own or the kernel's comparison; each contract: ONE APPLICATION.
-/
import Derived.Shelf.SlGeneric
import Derived.Shelf.SlLaysF0
import Derived.Ground.SlsfProg
import Derived.Ground.NamesProg
import Derived.Shelf.Small.Strs
import Derived.Test.YtlfhnpecfkhcpaaProg
namespace Go.Proofs
open Go.Shelf
def Try.sortRec_ren : Go.Shelf.Ren := ⟨fun | 6 => 22 | 15 => 30 | 14 => 29 | 28 => 41 | 29 => 42 | 20 => 33 | 21 => 34 | 22 => 35 | 23 => 36 | 24 => 37 | 25 => 38 | 26 => 39 | 27 => 40 | 46 => 44 | 47 => 45 | 48 => 46 | 49 => 47 | 50 => 48 | 57 => 49 | n => n, fun | 22 => 22 | 24 => 36 | 25 => 45 | 3 => 3 | 39 => 50 | 0 => 0 | 53 => 61 | 55 => 34 | 4 => 4 | 46 => 54 | 45 => 53 | 50 => 58 | 5 => 5 | 9 => 9 | 66 => 63 | 70 => 67 | 76 => 69 | 77 => 70 | n => n, fun | n => n⟩
theorem Try.sortRec : Go.Proofs.SlLaysF0.n6 Try.prog Try.sortRec_ren := {
  mixed := by kernel_rfl
  f6 := ⟨Try.f22.name, by decide, Try.func22.trans (congrArg some (by kernel_rfl))⟩
  f14 := ⟨Try.f29.name, by decide, Try.func29.trans (congrArg some (by kernel_rfl))⟩
  f15 := Try.func30.trans (congrArg some (by kernel_rfl))
  f20 := ⟨Try.f33.name, by decide, Try.func33.trans (congrArg some (by kernel_rfl))⟩
  f21 := ⟨Try.f34.name, by decide, Try.func34.trans (congrArg some (by kernel_rfl))⟩
  f22 := ⟨Try.f35.name, by decide, Try.func35.trans (congrArg some (by kernel_rfl))⟩
  f23 := ⟨Try.f36.name, by decide, Try.func36.trans (congrArg some (by kernel_rfl))⟩
  f24 := ⟨Try.f37.name, by decide, Try.func37.trans (congrArg some (by kernel_rfl))⟩
  f25 := ⟨Try.f38.name, by decide, Try.func38.trans (congrArg some (by kernel_rfl))⟩
  f26 := ⟨Try.f39.name, by decide, Try.func39.trans (congrArg some (by kernel_rfl))⟩
  f27 := ⟨Try.f40.name, by decide, Try.func40.trans (congrArg some (by kernel_rfl))⟩
  f28 := Try.func41.trans (congrArg some (by kernel_rfl))
  f29 := Try.func42.trans (congrArg some (by kernel_rfl))
  f46 := ⟨Try.f44.name, by decide, Try.func44.trans (congrArg some (by kernel_rfl))⟩
  f47 := Try.func45.trans (congrArg some (by kernel_rfl))
  f48 := Try.func46.trans (congrArg some (by kernel_rfl))
  f49 := ⟨Try.f47.name, by decide, Try.func47.trans (congrArg some (by kernel_rfl))⟩
  f50 := ⟨Try.f48.name, by decide, Try.func48.trans (congrArg some (by kernel_rfl))⟩
  f57 := ⟨Try.f49.name, by decide, Try.func49.trans (congrArg some (by kernel_rfl))⟩
  t0 := Try.underlying0
  a0 := Try.isAgg0
  z0 := Try.sizeOf0
  v0 := Try.zeroValue0
  t3 := Try.underlying3
  a3 := Try.isAgg3
  z3 := Try.sizeOf3
  v3 := Try.zeroValue3
  t4 := Try.underlying4
  a4 := Try.isAgg4
  z4 := Try.sizeOf4
  v4 := Try.zeroValue4
  t5 := Try.underlying5
  a5 := Try.isAgg5
  z5 := Try.sizeOf5
  v5 := Try.zeroValue5
  t9 := Try.underlying9
  a9 := Try.isAgg9
  z9 := Try.sizeOf9
  v9 := Try.zeroValue9
  t22 := Try.underlying22
  a22 := Try.isAgg22
  z22 := Try.sizeOf22
  v22 := Try.zeroValue22
  t25 := Try.underlying45
  a25 := Try.isAgg45
  z25 := Try.sizeOf45
  v25 := Try.zeroValue45
  t39 := Try.underlying50
  a39 := Try.isAgg50
  z39 := Try.sizeOf50
  v39 := Try.zeroValue50
  t45 := Try.underlying53
  a45 := Try.isAgg53
  z45 := Try.sizeOf53
  v45 := Try.zeroValue53
  t46 := Try.underlying54
  a46 := Try.isAgg54
  z46 := Try.sizeOf54
  v46 := Try.zeroValue54
  t50 := Try.underlying58
  a50 := Try.isAgg58
  z50 := Try.sizeOf58
  v50 := Try.zeroValue58
  t53 := Try.underlying61
  a53 := Try.isAgg61
  z53 := Try.sizeOf61
  v53 := Try.zeroValue61
  t55 := Try.underlying34
  a55 := Try.isAgg34
  z55 := Try.sizeOf34
  v55 := Try.zeroValue34
  t66 := Try.underlying63
  a66 := Try.isAgg63
  z66 := Try.sizeOf63
  v66 := Try.zeroValue63
  t70 := Try.underlying67
  a70 := Try.isAgg67
  z70 := Try.sizeOf67
  v70 := Try.zeroValue67
  t76 := Try.underlying69
  a76 := Try.isAgg69
  z76 := Try.sizeOf69
  v76 := Try.zeroValue69
  t77 := Try.underlying70
  a77 := Try.isAgg70
  z77 := Try.sizeOf70
  v77 := Try.zeroValue70 }
def Try.strCompare_ren : Go.Shelf.Ren := ⟨fun | 106 => 24 | 213 => 31 | 265 => 43 | n => n, fun | 9 => 9 | 3 => 3 | n => n, fun | n => n⟩
theorem Try.strCompare : Go.Proofs.Lays.n106 Try.prog Try.strCompare_ren := {
  mixed := by kernel_rfl
  f106 := Try.func24.trans (congrArg some (by kernel_rfl))
  f213 := Try.func31.trans (congrArg some (by kernel_rfl))
  f265 := Try.func43.trans (congrArg some (by kernel_rfl))
  t3 := Try.underlying3
  a3 := Try.isAgg3
  z3 := Try.sizeOf3
  v3 := Try.zeroValue3
  t9 := Try.underlying9
  a9 := Try.isAgg9
  z9 := Try.sizeOf9
  v9 := Try.zeroValue9 }
end Go.Proofs
