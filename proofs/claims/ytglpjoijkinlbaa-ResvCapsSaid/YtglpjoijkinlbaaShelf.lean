/-
  DERIVED: THE SHELF's CONTRACTS AT THIS DUMP, IN PLAIN WORDS (tools/lay-plain.mjs out of 'YtglpjoijkinlbaaShelf.lean', which tools/lay-shelf.mjs wrote): THE SAME DECLARATIONS UNDER THE SAME NAMES: 'import', 'namespace', 'open', 'def', 'theorem' AND NOTHING ELSE: no command of the shelf's: FOR A HAND-IN. Each laying: the table of numbers ('.._ren') and one theorem, a field a fact of the dump's own or the kernel's comparison; each contract: ONE APPLICATION.
-/
import Derived.Shelf.SlIterI.Nil
import Derived.Shelf.SlMaps.Clone
import Derived.Shelf.SortM.Plain
import Derived.Shelf.SortM.SortNone
import Derived.Ground.GgzProg
import Derived.Ground.SlgmProg
import Derived.Ground.SlmcProg
import Derived.Test.YtglpjoijkinlbaaProg
namespace Go.Proofs
open Go.Shelf
def Try.keysA_ren : Go.Shelf.Ren := ⟨fun | 7 => 15 | 10 => 24 | n => n, fun | 23 => 49 | 26 => 3 | 3 => 38 | 28 => 56 | 0 => 0 | 27 => 55 | 33 => 66 | 4 => 4 | n => n, fun | n => n⟩
theorem Try.keysA : Go.Proofs.SlLaysZI.n7 Try.prog Try.keysA_ren := {
  mixed := by kernel_rfl
  f7 := ⟨Try.f15.name, by decide, Try.func15.trans (congrArg some (by kernel_rfl))⟩
  f10 := ⟨Try.f24.name, by decide, Try.func24.trans (congrArg some (by kernel_rfl))⟩
  t0 := Try.underlying0
  a0 := Try.isAgg0
  z0 := Try.sizeOf0
  v0 := Try.zeroValue0
  t4 := Try.underlying4
  a4 := Try.isAgg4
  z4 := Try.sizeOf4
  v4 := Try.zeroValue4
  t23 := Try.underlying49
  a23 := Try.isAgg49
  z23 := Try.sizeOf49
  v23 := Try.zeroValue49
  t26 := Try.underlying3
  a26 := Try.isAgg3
  z26 := Try.sizeOf3
  v26 := Try.zeroValue3
  t27 := Try.underlying55
  a27 := Try.isAgg55
  z27 := Try.sizeOf55
  v27 := Try.zeroValue55
  t28 := Try.underlying56
  a28 := Try.isAgg56
  z28 := Try.sizeOf56
  v28 := Try.zeroValue56
  t33 := Try.underlying66
  a33 := Try.isAgg66
  z33 := Try.sizeOf66
  v33 := Try.zeroValue66 }
def Try.sortedA_ren : Go.Shelf.Ren := ⟨fun | 6 => 14 | 8 => 22 | 9 => 23 | 11 => 26 | 13 => 28 | 12 => 27 | 23 => 38 | 24 => 39 | 14 => 29 | 15 => 30 | 16 => 31 | 17 => 32 | 18 => 33 | 19 => 34 | 20 => 35 | 21 => 36 | 22 => 37 | 25 => 40 | 26 => 41 | 27 => 42 | 28 => 43 | 29 => 44 | 30 => 45 | 31 => 46 | n => n, fun | 26 => 3 | 28 => 56 | 24 => 53 | 0 => 0 | 3 => 3 | 37 => 71 | 48 => 30 | 50 => 81 | 4 => 4 | 40 => 74 | 39 => 73 | 45 => 46 | 5 => 5 | 9 => 9 | 51 => 82 | 55 => 86 | 57 => 88 | 58 => 89 | 33 => 66 | n => n, fun | n => n⟩
theorem Try.sortedA : Go.Proofs.SlLaysZI.n6 Try.prog Try.sortedA_ren := {
  mixed := by kernel_rfl
  f6 := ⟨Try.f14.name, by decide, Try.func14.trans (congrArg some (by kernel_rfl))⟩
  f8 := ⟨Try.f22.name, by decide, Try.func22.trans (congrArg some (by kernel_rfl))⟩
  f11 := ⟨Try.f26.name, by decide, Try.func26.trans (congrArg some (by kernel_rfl))⟩
  t0 := Try.underlying0
  a0 := Try.isAgg0
  z0 := Try.sizeOf0
  v0 := Try.zeroValue0
  t24 := Try.underlying53
  a24 := Try.isAgg53
  z24 := Try.sizeOf53
  v24 := Try.zeroValue53
  t26 := Try.underlying3
  a26 := Try.isAgg3
  z26 := Try.sizeOf3
  v26 := Try.zeroValue3
  t28 := Try.underlying56
  a28 := Try.isAgg56
  z28 := Try.sizeOf56
  v28 := Try.zeroValue56
  i26 := by kernel_rfl }
def Try.cloneM_ren : Go.Shelf.Ren := ⟨fun | 5 => 16 | 7 => 25 | n => n, fun | 23 => 49 | 25 => 3 | 3 => 38 | 4 => 4 | 20 => 20 | n => n, fun | n => n⟩
theorem Try.cloneM : Go.Proofs.SlLaysW.n5 Try.prog Try.cloneM_ren := {
  mixed := by kernel_rfl
  f5 := ⟨Try.f16.name, by decide, Try.func16.trans (congrArg some (by kernel_rfl))⟩
  f7 := Try.func25.trans (congrArg some (by kernel_rfl))
  t4 := Try.underlying4
  a4 := Try.isAgg4
  z4 := Try.sizeOf4
  v4 := Try.zeroValue4
  t20 := Try.underlying20
  a20 := Try.isAgg20
  z20 := Try.sizeOf20
  v20 := Try.zeroValue20
  t23 := Try.underlying49
  a23 := Try.isAgg49
  z23 := Try.sizeOf49
  v23 := Try.zeroValue49 }
def Try.sortA_ren : Go.Shelf.Ren := ⟨fun | 5 => 23 | 8 => 28 | 7 => 27 | 19 => 38 | 20 => 39 | 10 => 29 | 11 => 30 | 12 => 31 | 13 => 32 | 14 => 33 | 15 => 34 | 16 => 35 | 17 => 36 | 18 => 37 | 30 => 40 | 31 => 41 | 32 => 42 | 33 => 43 | 34 => 44 | 35 => 45 | 40 => 46 | n => n, fun | 23 => 53 | 25 => 3 | 3 => 3 | 32 => 71 | 22 => 53 | 0 => 0 | 44 => 30 | 46 => 81 | 4 => 4 | 36 => 74 | 35 => 73 | 41 => 46 | 5 => 5 | 9 => 9 | 53 => 82 | 57 => 86 | 63 => 88 | 64 => 89 | n => n, fun | n => n⟩
theorem Try.sortA : Go.Proofs.SlLaysM.n5 Try.prog Try.sortA_ren := {
  mixed := by kernel_rfl
  f5 := ⟨Try.f23.name, by decide, Try.func23.trans (congrArg some (by kernel_rfl))⟩
  f7 := ⟨Try.f27.name, by decide, Try.func27.trans (congrArg some (by kernel_rfl))⟩
  f8 := Try.func28.trans (congrArg some (by kernel_rfl))
  f10 := ⟨Try.f29.name, by decide, Try.func29.trans (congrArg some (by kernel_rfl))⟩
  f11 := ⟨Try.f30.name, by decide, Try.func30.trans (congrArg some (by kernel_rfl))⟩
  f12 := ⟨Try.f31.name, by decide, Try.func31.trans (congrArg some (by kernel_rfl))⟩
  f13 := ⟨Try.f32.name, by decide, Try.func32.trans (congrArg some (by kernel_rfl))⟩
  f14 := ⟨Try.f33.name, by decide, Try.func33.trans (congrArg some (by kernel_rfl))⟩
  f15 := ⟨Try.f34.name, by decide, Try.func34.trans (congrArg some (by kernel_rfl))⟩
  f16 := ⟨Try.f35.name, by decide, Try.func35.trans (congrArg some (by kernel_rfl))⟩
  f17 := ⟨Try.f36.name, by decide, Try.func36.trans (congrArg some (by kernel_rfl))⟩
  f18 := ⟨Try.f37.name, by decide, Try.func37.trans (congrArg some (by kernel_rfl))⟩
  f19 := Try.func38.trans (congrArg some (by kernel_rfl))
  f20 := Try.func39.trans (congrArg some (by kernel_rfl))
  f30 := ⟨Try.f40.name, by decide, Try.func40.trans (congrArg some (by kernel_rfl))⟩
  f31 := Try.func41.trans (congrArg some (by kernel_rfl))
  f32 := Try.func42.trans (congrArg some (by kernel_rfl))
  f33 := ⟨Try.f43.name, by decide, Try.func43.trans (congrArg some (by kernel_rfl))⟩
  f34 := ⟨Try.f44.name, by decide, Try.func44.trans (congrArg some (by kernel_rfl))⟩
  f35 := ⟨Try.f45.name, by decide, Try.func45.trans (congrArg some (by kernel_rfl))⟩
  f40 := ⟨Try.f46.name, by decide, Try.func46.trans (congrArg some (by kernel_rfl))⟩
  t0 := Try.underlying0
  a0 := Try.isAgg0
  z0 := Try.sizeOf0
  v0 := Try.zeroValue0
  t3 := Try.underlying3
  a3 := Try.isAgg3
  z3 := Try.sizeOf3
  v3 := Try.zeroValue3
  t4 := Try.underlying4
  a4 := Try.isAgg4
  z4 := Try.sizeOf4
  v4 := Try.zeroValue4
  t5 := Try.underlying5
  a5 := Try.isAgg5
  z5 := Try.sizeOf5
  v5 := Try.zeroValue5
  t9 := Try.underlying9
  a9 := Try.isAgg9
  z9 := Try.sizeOf9
  v9 := Try.zeroValue9
  t22 := Try.underlying53
  a22 := Try.isAgg53
  z22 := Try.sizeOf53
  v22 := Try.zeroValue53
  t23 := Try.underlying53
  a23 := Try.isAgg53
  z23 := Try.sizeOf53
  v23 := Try.zeroValue53
  t25 := Try.underlying3
  a25 := Try.isAgg3
  z25 := Try.sizeOf3
  v25 := Try.zeroValue3
  t32 := Try.underlying71
  a32 := Try.isAgg71
  z32 := Try.sizeOf71
  v32 := Try.zeroValue71
  t35 := Try.underlying73
  a35 := Try.isAgg73
  z35 := Try.sizeOf73
  v35 := Try.zeroValue73
  t36 := Try.underlying74
  a36 := Try.isAgg74
  z36 := Try.sizeOf74
  v36 := Try.zeroValue74
  t41 := Try.underlying46
  a41 := Try.isAgg46
  z41 := Try.sizeOf46
  v41 := Try.zeroValue46
  t44 := Try.underlying30
  a44 := Try.isAgg30
  z44 := Try.sizeOf30
  v44 := Try.zeroValue30
  t46 := Try.underlying81
  a46 := Try.isAgg81
  z46 := Try.sizeOf81
  v46 := Try.zeroValue81
  t53 := Try.underlying82
  a53 := Try.isAgg82
  z53 := Try.sizeOf82
  v53 := Try.zeroValue82
  t57 := Try.underlying86
  a57 := Try.isAgg86
  z57 := Try.sizeOf86
  v57 := Try.zeroValue86
  t63 := Try.underlying88
  a63 := Try.isAgg88
  z63 := Try.sizeOf88
  v63 := Try.zeroValue88
  t64 := Try.underlying89
  a64 := Try.isAgg89
  z64 := Try.sizeOf89
  v64 := Try.zeroValue89 }
end Go.Proofs
