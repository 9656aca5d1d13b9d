/- The functions of this program as a table; the answers that stand for library functions; the law's examples are shown. -/
import Derived.Test.YthggbjpanpnlnaaM2
import Derived.Test.YthggbjpanpnlnaaProg
import Derived.KernelRfl
import Derived.Shelf.SlIterI.Nil
import Derived.Shelf.SortM.Plain
import Derived.Shelf.SortM.SortNone
import Derived.Ground.GgzProg
import Derived.Ground.SlgmProg
set_option linter.unusedVariables false
set_option linter.unusedSimpArgs false
/- The table of the functions that have bodies, as a trie; it is the program's. Written by a program of ours (gentab.py). -/
namespace Go.Proofs.Ythggbjpanpnlnaa
open Go.Ideal
set_option maxRecDepth 100000
noncomputable def tab : Tr Func := (.node (.node (.node (.node (.node (.node (.node .nil (some Try.f63) .nil) (some Try.f31) .nil) (some Try.f15) (.node (.node .nil (some Try.f79) .nil) (some Try.f47) .nil)) (some Try.f7) (.node (.node (.node .nil (some Try.f71) .nil) (some Try.f39) .nil) (some Try.f23) (.node (.node .nil (some Try.f87) .nil) (some Try.f55) .nil))) (some Try.f3) (.node (.node (.node (.node .nil (some Try.f67) .nil) (some Try.f35) .nil) (some Try.f19) (.node (.node .nil (some Try.f83) .nil) (some Try.f51) .nil)) (some Try.f11) (.node (.node (.node .nil (some Try.f75) .nil) (some Try.f43) .nil) (some Try.f27) (.node .nil (some Try.f59) .nil)))) none (.node (.node (.node (.node (.node .nil (some Try.f65) .nil) (some Try.f33) .nil) (some Try.f17) (.node (.node .nil (some Try.f81) .nil) (some Try.f49) .nil)) (some Try.f9) (.node (.node (.node .nil (some Try.f73) .nil) (some Try.f41) .nil) (some Try.f25) (.node (.node .nil (some Try.f89) .nil) (some Try.f57) .nil))) (some Try.f5) (.node (.node (.node (.node .nil (some Try.f69) .nil) (some Try.f37) .nil) (some Try.f21) (.node (.node .nil (some Try.f85) .nil) (some Try.f53) .nil)) (some Try.f13) (.node (.node (.node .nil (some Try.f77) .nil) (some Try.f45) .nil) (some Try.f29) (.node .nil (some Try.f61) .nil))))) none (.node (.node (.node (.node (.node (.node .nil (some Try.f64) .nil) (some Try.f32) .nil) (some Try.f16) (.node (.node .nil (some Try.f80) .nil) (some Try.f48) .nil)) (some Try.f8) (.node (.node (.node .nil (some Try.f72) .nil) (some Try.f40) .nil) (some Try.f24) (.node (.node .nil (some Try.f88) .nil) (some Try.f56) .nil))) (some Try.f4) (.node (.node (.node (.node .nil (some Try.f68) .nil) (some Try.f36) .nil) (some Try.f20) (.node (.node .nil (some Try.f84) .nil) (some Try.f52) .nil)) (some Try.f12) (.node (.node (.node .nil (some Try.f76) .nil) (some Try.f44) .nil) (some Try.f28) (.node .nil (some Try.f60) .nil)))) (some Try.f2) (.node (.node (.node (.node (.node .nil (some Try.f66) .nil) (some Try.f34) .nil) (some Try.f18) (.node (.node .nil (some Try.f82) .nil) (some Try.f50) .nil)) (some Try.f10) (.node (.node (.node .nil (some Try.f74) .nil) (some Try.f42) .nil) (some Try.f26) (.node (.node .nil (some Try.f90) .nil) (some Try.f58) .nil))) (some Try.f6) (.node (.node (.node (.node .nil (some Try.f70) .nil) (some Try.f38) .nil) (some Try.f22) (.node (.node .nil (some Try.f86) .nil) (some Try.f54) .nil)) (some Try.f14) (.node (.node (.node .nil (some Try.f78) .nil) (some Try.f46) .nil) (some Try.f30) (.node .nil (some Try.f62) .nil))))))
theorem tab_all : Tr.All (fun g fn => Try.prog.funcs[g]? = some fn ∧ (fn.name == "runtime.NumGoroutine") = false) id tab := ⟨(fun _ h => by cases h), ⟨(fun _ h => by cases h), ⟨(fun _ h => by cases h; exact ⟨Try.func3, by kernel_rfl⟩), ⟨(fun _ h => by cases h; exact ⟨Try.func7, by kernel_rfl⟩), ⟨(fun _ h => by cases h; exact ⟨Try.func15, by kernel_rfl⟩), ⟨(fun _ h => by cases h; exact ⟨Try.func31, by kernel_rfl⟩), ⟨(fun _ h => by cases h; exact ⟨Try.func63, by kernel_rfl⟩), trivial, trivial⟩, trivial⟩, ⟨(fun _ h => by cases h; exact ⟨Try.func47, by kernel_rfl⟩), ⟨(fun _ h => by cases h; exact ⟨Try.func79, by kernel_rfl⟩), trivial, trivial⟩, trivial⟩⟩, ⟨(fun _ h => by cases h; exact ⟨Try.func23, by kernel_rfl⟩), ⟨(fun _ h => by cases h; exact ⟨Try.func39, by kernel_rfl⟩), ⟨(fun _ h => by cases h; exact ⟨Try.func71, by kernel_rfl⟩), trivial, trivial⟩, trivial⟩, ⟨(fun _ h => by cases h; exact ⟨Try.func55, by kernel_rfl⟩), ⟨(fun _ h => by cases h; exact ⟨Try.func87, by kernel_rfl⟩), trivial, trivial⟩, trivial⟩⟩⟩, ⟨(fun _ h => by cases h; exact ⟨Try.func11, by kernel_rfl⟩), ⟨(fun _ h => by cases h; exact ⟨Try.func19, by kernel_rfl⟩), ⟨(fun _ h => by cases h; exact ⟨Try.func35, by kernel_rfl⟩), ⟨(fun _ h => by cases h; exact ⟨Try.func67, by kernel_rfl⟩), trivial, trivial⟩, trivial⟩, ⟨(fun _ h => by cases h; exact ⟨Try.func51, by kernel_rfl⟩), ⟨(fun _ h => by cases h; exact ⟨Try.func83, by kernel_rfl⟩), trivial, trivial⟩, trivial⟩⟩, ⟨(fun _ h => by cases h; exact ⟨Try.func27, by kernel_rfl⟩), ⟨(fun _ h => by cases h; exact ⟨Try.func43, by kernel_rfl⟩), ⟨(fun _ h => by cases h; exact ⟨Try.func75, by kernel_rfl⟩), trivial, trivial⟩, trivial⟩, ⟨(fun _ h => by cases h; exact ⟨Try.func59, by kernel_rfl⟩), trivial, trivial⟩⟩⟩⟩, ⟨(fun _ h => by cases h; exact ⟨Try.func5, by kernel_rfl⟩), ⟨(fun _ h => by cases h; exact ⟨Try.func9, by kernel_rfl⟩), ⟨(fun _ h => by cases h; exact ⟨Try.func17, by kernel_rfl⟩), ⟨(fun _ h => by cases h; exact ⟨Try.func33, by kernel_rfl⟩), ⟨(fun _ h => by cases h; exact ⟨Try.func65, by kernel_rfl⟩), trivial, trivial⟩, trivial⟩, ⟨(fun _ h => by cases h; exact ⟨Try.func49, by kernel_rfl⟩), ⟨(fun _ h => by cases h; exact ⟨Try.func81, by kernel_rfl⟩), trivial, trivial⟩, trivial⟩⟩, ⟨(fun _ h => by cases h; exact ⟨Try.func25, by kernel_rfl⟩), ⟨(fun _ h => by cases h; exact ⟨Try.func41, by kernel_rfl⟩), ⟨(fun _ h => by cases h; exact ⟨Try.func73, by kernel_rfl⟩), trivial, trivial⟩, trivial⟩, ⟨(fun _ h => by cases h; exact ⟨Try.func57, by kernel_rfl⟩), ⟨(fun _ h => by cases h; exact ⟨Try.func89, by kernel_rfl⟩), trivial, trivial⟩, trivial⟩⟩⟩, ⟨(fun _ h => by cases h; exact ⟨Try.func13, by kernel_rfl⟩), ⟨(fun _ h => by cases h; exact ⟨Try.func21, by kernel_rfl⟩), ⟨(fun _ h => by cases h; exact ⟨Try.func37, by kernel_rfl⟩), ⟨(fun _ h => by cases h; exact ⟨Try.func69, by kernel_rfl⟩), trivial, trivial⟩, trivial⟩, ⟨(fun _ h => by cases h; exact ⟨Try.func53, by kernel_rfl⟩), ⟨(fun _ h => by cases h; exact ⟨Try.func85, by kernel_rfl⟩), trivial, trivial⟩, trivial⟩⟩, ⟨(fun _ h => by cases h; exact ⟨Try.func29, by kernel_rfl⟩), ⟨(fun _ h => by cases h; exact ⟨Try.func45, by kernel_rfl⟩), ⟨(fun _ h => by cases h; exact ⟨Try.func77, by kernel_rfl⟩), trivial, trivial⟩, trivial⟩, ⟨(fun _ h => by cases h; exact ⟨Try.func61, by kernel_rfl⟩), trivial, trivial⟩⟩⟩⟩⟩, ⟨(fun _ h => by cases h; exact ⟨Try.func2, by kernel_rfl⟩), ⟨(fun _ h => by cases h; exact ⟨Try.func4, by kernel_rfl⟩), ⟨(fun _ h => by cases h; exact ⟨Try.func8, by kernel_rfl⟩), ⟨(fun _ h => by cases h; exact ⟨Try.func16, by kernel_rfl⟩), ⟨(fun _ h => by cases h; exact ⟨Try.func32, by kernel_rfl⟩), ⟨(fun _ h => by cases h; exact ⟨Try.func64, by kernel_rfl⟩), trivial, trivial⟩, trivial⟩, ⟨(fun _ h => by cases h; exact ⟨Try.func48, by kernel_rfl⟩), ⟨(fun _ h => by cases h; exact ⟨Try.func80, by kernel_rfl⟩), trivial, trivial⟩, trivial⟩⟩, ⟨(fun _ h => by cases h; exact ⟨Try.func24, by kernel_rfl⟩), ⟨(fun _ h => by cases h; exact ⟨Try.func40, by kernel_rfl⟩), ⟨(fun _ h => by cases h; exact ⟨Try.func72, by kernel_rfl⟩), trivial, trivial⟩, trivial⟩, ⟨(fun _ h => by cases h; exact ⟨Try.func56, by kernel_rfl⟩), ⟨(fun _ h => by cases h; exact ⟨Try.func88, by kernel_rfl⟩), trivial, trivial⟩, trivial⟩⟩⟩, ⟨(fun _ h => by cases h; exact ⟨Try.func12, by kernel_rfl⟩), ⟨(fun _ h => by cases h; exact ⟨Try.func20, by kernel_rfl⟩), ⟨(fun _ h => by cases h; exact ⟨Try.func36, by kernel_rfl⟩), ⟨(fun _ h => by cases h; exact ⟨Try.func68, by kernel_rfl⟩), trivial, trivial⟩, trivial⟩, ⟨(fun _ h => by cases h; exact ⟨Try.func52, by kernel_rfl⟩), ⟨(fun _ h => by cases h; exact ⟨Try.func84, by kernel_rfl⟩), trivial, trivial⟩, trivial⟩⟩, ⟨(fun _ h => by cases h; exact ⟨Try.func28, by kernel_rfl⟩), ⟨(fun _ h => by cases h; exact ⟨Try.func44, by kernel_rfl⟩), ⟨(fun _ h => by cases h; exact ⟨Try.func76, by kernel_rfl⟩), trivial, trivial⟩, trivial⟩, ⟨(fun _ h => by cases h; exact ⟨Try.func60, by kernel_rfl⟩), trivial, trivial⟩⟩⟩⟩, ⟨(fun _ h => by cases h; exact ⟨Try.func6, by kernel_rfl⟩), ⟨(fun _ h => by cases h; exact ⟨Try.func10, by kernel_rfl⟩), ⟨(fun _ h => by cases h; exact ⟨Try.func18, by kernel_rfl⟩), ⟨(fun _ h => by cases h; exact ⟨Try.func34, by kernel_rfl⟩), ⟨(fun _ h => by cases h; exact ⟨Try.func66, by kernel_rfl⟩), trivial, trivial⟩, trivial⟩, ⟨(fun _ h => by cases h; exact ⟨Try.func50, by kernel_rfl⟩), ⟨(fun _ h => by cases h; exact ⟨Try.func82, by kernel_rfl⟩), trivial, trivial⟩, trivial⟩⟩, ⟨(fun _ h => by cases h; exact ⟨Try.func26, by kernel_rfl⟩), ⟨(fun _ h => by cases h; exact ⟨Try.func42, by kernel_rfl⟩), ⟨(fun _ h => by cases h; exact ⟨Try.func74, by kernel_rfl⟩), trivial, trivial⟩, trivial⟩, ⟨(fun _ h => by cases h; exact ⟨Try.func58, by kernel_rfl⟩), ⟨(fun _ h => by cases h; exact ⟨Try.func90, by kernel_rfl⟩), trivial, trivial⟩, trivial⟩⟩⟩, ⟨(fun _ h => by cases h; exact ⟨Try.func14, by kernel_rfl⟩), ⟨(fun _ h => by cases h; exact ⟨Try.func22, by kernel_rfl⟩), ⟨(fun _ h => by cases h; exact ⟨Try.func38, by kernel_rfl⟩), ⟨(fun _ h => by cases h; exact ⟨Try.func70, by kernel_rfl⟩), trivial, trivial⟩, trivial⟩, ⟨(fun _ h => by cases h; exact ⟨Try.func54, by kernel_rfl⟩), ⟨(fun _ h => by cases h; exact ⟨Try.func86, by kernel_rfl⟩), trivial, trivial⟩, trivial⟩⟩, ⟨(fun _ h => by cases h; exact ⟨Try.func30, by kernel_rfl⟩), ⟨(fun _ h => by cases h; exact ⟨Try.func46, by kernel_rfl⟩), ⟨(fun _ h => by cases h; exact ⟨Try.func78, by kernel_rfl⟩), trivial, trivial⟩, trivial⟩, ⟨(fun _ h => by cases h; exact ⟨Try.func62, by kernel_rfl⟩), trivial, trivial⟩⟩⟩⟩⟩⟩
theorem table : Table Try.prog tab := ⟨fun _ _ h => Tr.All.get tab_all h⟩
end Go.Proofs.Ythggbjpanpnlnaa

/- The shelf's contracts of slices.Sort, slices.Sorted and the iterators of maps.Keys, laid at this program (printed by the kit's lay-plain tool). -/
namespace Go.Proofs
open Go.Shelf
def Try.keysA_ren : Go.Shelf.Ren := ⟨fun | 7 => 35 | 10 => 58 | n => n, fun | 23 => 64 | 26 => 3 | 3 => 3 | 28 => 67 | 0 => 0 | 27 => 66 | 33 => 75 | 4 => 4 | n => n, fun | n => n⟩
theorem Try.keysA : Go.Proofs.SlLaysZI.n7 Try.prog Try.keysA_ren := {
  mixed := by kernel_rfl
  f7 := ⟨Try.f35.name, by decide, Try.func35.trans (congrArg some (by kernel_rfl))⟩
  f10 := ⟨Try.f58.name, by decide, Try.func58.trans (congrArg some (by kernel_rfl))⟩
  t0 := Try.underlying0
  a0 := Try.isAgg0
  z0 := Try.sizeOf0
  v0 := Try.zeroValue0
  t4 := Try.underlying4
  a4 := Try.isAgg4
  z4 := Try.sizeOf4
  v4 := Try.zeroValue4
  t23 := Try.underlying64
  a23 := Try.isAgg64
  z23 := Try.sizeOf64
  v23 := Try.zeroValue64
  t26 := Try.underlying3
  a26 := Try.isAgg3
  z26 := Try.sizeOf3
  v26 := Try.zeroValue3
  t27 := Try.underlying66
  a27 := Try.isAgg66
  z27 := Try.sizeOf66
  v27 := Try.zeroValue66
  t28 := Try.underlying67
  a28 := Try.isAgg67
  z28 := Try.sizeOf67
  v28 := Try.zeroValue67
  t33 := Try.underlying75
  a33 := Try.isAgg75
  z33 := Try.sizeOf75
  v33 := Try.zeroValue75 }
def Try.keysB_ren : Go.Shelf.Ren := ⟨fun | 7 => 45 | 10 => 64 | n => n, fun | 23 => 78 | 26 => 3 | 3 => 39 | 28 => 67 | 0 => 0 | 27 => 66 | 33 => 75 | 4 => 4 | n => n, fun | n => n⟩
theorem Try.keysB : Go.Proofs.SlLaysZI.n7 Try.prog Try.keysB_ren := {
  mixed := by kernel_rfl
  f7 := ⟨Try.f45.name, by decide, Try.func45.trans (congrArg some (by kernel_rfl))⟩
  f10 := ⟨Try.f64.name, by decide, Try.func64.trans (congrArg some (by kernel_rfl))⟩
  t0 := Try.underlying0
  a0 := Try.isAgg0
  z0 := Try.sizeOf0
  v0 := Try.zeroValue0
  t4 := Try.underlying4
  a4 := Try.isAgg4
  z4 := Try.sizeOf4
  v4 := Try.zeroValue4
  t23 := Try.underlying78
  a23 := Try.isAgg78
  z23 := Try.sizeOf78
  v23 := Try.zeroValue78
  t26 := Try.underlying3
  a26 := Try.isAgg3
  z26 := Try.sizeOf3
  v26 := Try.zeroValue3
  t27 := Try.underlying66
  a27 := Try.isAgg66
  z27 := Try.sizeOf66
  v27 := Try.zeroValue66
  t28 := Try.underlying67
  a28 := Try.isAgg67
  z28 := Try.sizeOf67
  v28 := Try.zeroValue67
  t33 := Try.underlying75
  a33 := Try.isAgg75
  z33 := Try.sizeOf75
  v33 := Try.zeroValue75 }
def Try.sortedA_ren : Go.Shelf.Ren := ⟨fun | 6 => 34 | 8 => 56 | 9 => 57 | 11 => 69 | 13 => 71 | 12 => 70 | 23 => 82 | 24 => 83 | 14 => 73 | 15 => 74 | 16 => 75 | 17 => 76 | 18 => 77 | 19 => 78 | 20 => 79 | 21 => 80 | 22 => 81 | 25 => 84 | 26 => 85 | 27 => 86 | 28 => 87 | 29 => 88 | 30 => 89 | 31 => 90 | n => n, fun | 26 => 3 | 28 => 67 | 24 => 23 | 0 => 0 | 3 => 3 | 37 => 97 | 48 => 109 | 50 => 111 | 4 => 4 | 40 => 102 | 39 => 101 | 45 => 106 | 5 => 5 | 9 => 9 | 51 => 112 | 55 => 116 | 57 => 118 | 58 => 119 | 33 => 75 | n => n, fun | n => n⟩
theorem Try.sortedA : Go.Proofs.SlLaysZI.n6 Try.prog Try.sortedA_ren := {
  mixed := by kernel_rfl
  f6 := ⟨Try.f34.name, by decide, Try.func34.trans (congrArg some (by kernel_rfl))⟩
  f8 := ⟨Try.f56.name, by decide, Try.func56.trans (congrArg some (by kernel_rfl))⟩
  f11 := ⟨Try.f69.name, by decide, Try.func69.trans (congrArg some (by kernel_rfl))⟩
  t0 := Try.underlying0
  a0 := Try.isAgg0
  z0 := Try.sizeOf0
  v0 := Try.zeroValue0
  t24 := Try.underlying23
  a24 := Try.isAgg23
  z24 := Try.sizeOf23
  v24 := Try.zeroValue23
  t26 := Try.underlying3
  a26 := Try.isAgg3
  z26 := Try.sizeOf3
  v26 := Try.zeroValue3
  t28 := Try.underlying67
  a28 := Try.isAgg67
  z28 := Try.sizeOf67
  v28 := Try.zeroValue67
  i26 := by kernel_rfl }
def Try.sortA_ren : Go.Shelf.Ren := ⟨fun | 5 => 57 | 8 => 71 | 7 => 70 | 19 => 82 | 20 => 83 | 10 => 73 | 11 => 74 | 12 => 75 | 13 => 76 | 14 => 77 | 15 => 78 | 16 => 79 | 17 => 80 | 18 => 81 | 30 => 84 | 31 => 85 | 32 => 86 | 33 => 87 | 34 => 88 | 35 => 89 | 40 => 90 | n => n, fun | 23 => 23 | 25 => 3 | 3 => 3 | 32 => 97 | 22 => 23 | 0 => 0 | 44 => 109 | 46 => 111 | 4 => 4 | 36 => 102 | 35 => 101 | 41 => 106 | 5 => 5 | 9 => 9 | 53 => 112 | 57 => 116 | 63 => 118 | 64 => 119 | n => n, fun | n => n⟩
theorem Try.sortA : Go.Proofs.SlLaysM.n5 Try.prog Try.sortA_ren := {
  mixed := by kernel_rfl
  f5 := ⟨Try.f57.name, by decide, Try.func57.trans (congrArg some (by kernel_rfl))⟩
  f7 := ⟨Try.f70.name, by decide, Try.func70.trans (congrArg some (by kernel_rfl))⟩
  f8 := Try.func71.trans (congrArg some (by kernel_rfl))
  f10 := ⟨Try.f73.name, by decide, Try.func73.trans (congrArg some (by kernel_rfl))⟩
  f11 := ⟨Try.f74.name, by decide, Try.func74.trans (congrArg some (by kernel_rfl))⟩
  f12 := ⟨Try.f75.name, by decide, Try.func75.trans (congrArg some (by kernel_rfl))⟩
  f13 := ⟨Try.f76.name, by decide, Try.func76.trans (congrArg some (by kernel_rfl))⟩
  f14 := ⟨Try.f77.name, by decide, Try.func77.trans (congrArg some (by kernel_rfl))⟩
  f15 := ⟨Try.f78.name, by decide, Try.func78.trans (congrArg some (by kernel_rfl))⟩
  f16 := ⟨Try.f79.name, by decide, Try.func79.trans (congrArg some (by kernel_rfl))⟩
  f17 := ⟨Try.f80.name, by decide, Try.func80.trans (congrArg some (by kernel_rfl))⟩
  f18 := ⟨Try.f81.name, by decide, Try.func81.trans (congrArg some (by kernel_rfl))⟩
  f19 := Try.func82.trans (congrArg some (by kernel_rfl))
  f20 := Try.func83.trans (congrArg some (by kernel_rfl))
  f30 := ⟨Try.f84.name, by decide, Try.func84.trans (congrArg some (by kernel_rfl))⟩
  f31 := Try.func85.trans (congrArg some (by kernel_rfl))
  f32 := Try.func86.trans (congrArg some (by kernel_rfl))
  f33 := ⟨Try.f87.name, by decide, Try.func87.trans (congrArg some (by kernel_rfl))⟩
  f34 := ⟨Try.f88.name, by decide, Try.func88.trans (congrArg some (by kernel_rfl))⟩
  f35 := ⟨Try.f89.name, by decide, Try.func89.trans (congrArg some (by kernel_rfl))⟩
  f40 := ⟨Try.f90.name, by decide, Try.func90.trans (congrArg some (by kernel_rfl))⟩
  t0 := Try.underlying0
  a0 := Try.isAgg0
  z0 := Try.sizeOf0
  v0 := Try.zeroValue0
  t3 := Try.underlying3
  a3 := Try.isAgg3
  z3 := Try.sizeOf3
  v3 := Try.zeroValue3
  t4 := Try.underlying4
  a4 := Try.isAgg4
  z4 := Try.sizeOf4
  v4 := Try.zeroValue4
  t5 := Try.underlying5
  a5 := Try.isAgg5
  z5 := Try.sizeOf5
  v5 := Try.zeroValue5
  t9 := Try.underlying9
  a9 := Try.isAgg9
  z9 := Try.sizeOf9
  v9 := Try.zeroValue9
  t22 := Try.underlying23
  a22 := Try.isAgg23
  z22 := Try.sizeOf23
  v22 := Try.zeroValue23
  t23 := Try.underlying23
  a23 := Try.isAgg23
  z23 := Try.sizeOf23
  v23 := Try.zeroValue23
  t25 := Try.underlying3
  a25 := Try.isAgg3
  z25 := Try.sizeOf3
  v25 := Try.zeroValue3
  t32 := Try.underlying97
  a32 := Try.isAgg97
  z32 := Try.sizeOf97
  v32 := Try.zeroValue97
  t35 := Try.underlying101
  a35 := Try.isAgg101
  z35 := Try.sizeOf101
  v35 := Try.zeroValue101
  t36 := Try.underlying102
  a36 := Try.isAgg102
  z36 := Try.sizeOf102
  v36 := Try.zeroValue102
  t41 := Try.underlying106
  a41 := Try.isAgg106
  z41 := Try.sizeOf106
  v41 := Try.zeroValue106
  t44 := Try.underlying109
  a44 := Try.isAgg109
  z44 := Try.sizeOf109
  v44 := Try.zeroValue109
  t46 := Try.underlying111
  a46 := Try.isAgg111
  z46 := Try.sizeOf111
  v46 := Try.zeroValue111
  t53 := Try.underlying112
  a53 := Try.isAgg112
  z53 := Try.sizeOf112
  v53 := Try.zeroValue112
  t57 := Try.underlying116
  a57 := Try.isAgg116
  z57 := Try.sizeOf116
  v57 := Try.zeroValue116
  t63 := Try.underlying118
  a63 := Try.isAgg118
  z63 := Try.sizeOf118
  v63 := Try.zeroValue118
  t64 := Try.underlying119
  a64 := Try.isAgg119
  z64 := Try.sizeOf119
  v64 := Try.zeroValue119 }
end Go.Proofs

/- slices.Sorted over the keys of a map of ints, as one step of the ideal machine: the keys, rising. -/
namespace Go.Ideal
open Go

def insI (x : Int) : List Int → List Int
  | [] => [x]
  | y :: l => bif decide (x ≤ y) then x :: y :: l else y :: insI x l
def sortI : List Int → List Int
  | [] => []
  | x :: l => insI x (sortI l)
def keysI : List (Value × Value) → Option (List Int)
  | [] => some []
  | p :: l => match p.1 with
    | .int .i64 n => bif decide (-9223372036854775808 ≤ n) && decide (n < 9223372036854775808) then (keysI l).map (n :: ·) else none
    | _ => none
def iSorted (iters : Nat → Bool) (mt : TypeId → Bool) (t : TypeId) (args : List Value) (H : Heap) : Option (Value × Heap) :=
  match args with
  | [.func (.func g) a b] => chk (iters g && a.toList.isEmpty) (match b.toList with
    | [.pointer (some ⟨p, 0, none⟩)] => (rowOf H p).bind fun r => chk (mt r.2.1) (match r.1 with
      | [.map (some m)] => match H.get m with
        | some (.map L) => (keysI L).bind fun ks => chk (Nat.ble ks.length 17592186044415) (match sortI ks with
          | [] => some (.slice none 0 0, H)
          | k :: l => some (.slice (some ⟨H.n, 0, none⟩) (l.length + 1) (l.length + 1), H.push (.cells ((k :: l).map (Value.int .i64)) t false)))
        | _ => none
      | _ => none)
    | _ => none)
  | _ => none

theorem insI_perm (x : Int) : ∀ l, (insI x l).Perm (x :: l)
  | [] => List.Perm.refl _
  | y :: l => by
    unfold insI
    cases decide (x ≤ y) with
    | true => exact List.Perm.refl _
    | false => exact ((insI_perm x l).cons y).trans (List.Perm.swap x y l)
theorem sortI_perm : ∀ l, (sortI l).Perm l
  | [] => List.Perm.refl _
  | x :: l => (insI_perm x _).trans ((sortI_perm l).cons x)
theorem insI_sorted (x : Int) : ∀ l, l.Pairwise (fun a b : Int => a ≤ b) → (insI x l).Pairwise (fun a b : Int => a ≤ b)
  | [], _ => List.pairwise_singleton _ _
  | y :: l, h => by
    unfold insI
    cases hd : decide (x ≤ y) with
    | true =>
      have hxy := of_decide_eq_true hd
      refine List.pairwise_cons.2 ⟨?_, h⟩
      intro z hz
      rcases List.mem_cons.1 hz with rfl | hz
      · exact hxy
      · exact Int.le_trans hxy ((List.pairwise_cons.1 h).1 z hz)
    | false =>
      have hxy := of_decide_eq_false hd
      refine List.pairwise_cons.2 ⟨?_, insI_sorted x l (List.pairwise_cons.1 h).2⟩
      intro z hz
      rcases List.mem_cons.1 ((insI_perm x l).mem_iff.1 hz) with rfl | hz
      · omega
      · exact (List.pairwise_cons.1 h).1 z hz
theorem sortI_sorted : ∀ l, (sortI l).Pairwise (fun a b : Int => a ≤ b)
  | [] => List.Pairwise.nil
  | x :: l => insI_sorted x _ (sortI_sorted l)

theorem sorted_unique : ∀ {a b : List Int}, a.Perm b → a.Pairwise (fun x y : Int => x ≤ y) → b.Pairwise (fun x y : Int => x ≤ y) → a = b
  | [], b, h, _, _ => by rw [List.nil_perm.1 h]
  | x :: a, b, h, ha, hb => by
    cases b with
    | nil => exact absurd h.length_eq (by simp)
    | cons y b =>
      have hx : x ∈ y :: b := h.mem_iff.1 List.mem_cons_self
      have hy : y ∈ x :: a := h.mem_iff.2 List.mem_cons_self
      have h1 : x = y := by
        rcases List.mem_cons.1 hx with e | hx
        · exact e
        · rcases List.mem_cons.1 hy with e | hy
          · exact e.symm
          · have := (List.pairwise_cons.1 ha).1 y hy
            have := (List.pairwise_cons.1 hb).1 x hx
            omega
      subst h1
      rw [sorted_unique (List.Perm.cons_inv h) (List.pairwise_cons.1 ha).2 (List.pairwise_cons.1 hb).2]

theorem merge_sortI {ss ks : List Int} (h : ss.Perm ks) : ss.mergeSort (fun x y => decide (x ≤ y)) = sortI ks := by
  refine sorted_unique (((List.mergeSort_perm _ _).trans h).trans (sortI_perm ks).symm) ?_ (sortI_sorted ks)
  have := List.pairwise_mergeSort (le := fun x y : Int => decide (x ≤ y)) (fun a b c h1 h2 => by simp at *; omega) (fun a b => by simp; omega) ss
  exact this.imp (fun h => of_decide_eq_true h)

theorem insert_perm {A : Type} (x : Lit × DataW A) : ∀ l : List (Lit × DataW A), (DataW.insert x l).Perm (x :: l)
  | [] => List.Perm.refl _
  | y :: l => by
    unfold DataW.insert
    split
    · exact List.Perm.refl _
    · exact ((insert_perm x l).cons y).trans (List.Perm.swap x y l)
theorem inserts_perm {A : Type} : ∀ l : List (Lit × DataW A), (l.foldr DataW.insert []).Perm l
  | [] => List.Perm.refl _
  | x :: l => (insert_perm x _).trans ((inserts_perm l).cons x)

theorem keysI_spec {φ : Inj} : ∀ (L : List (Value × Value)) (es : List MapEntry) (ks : List Int), es.length = L.length → (∀ (j : Nat) p e, L[j]? = some p → es[j]? = some e → e.key = p.1 ∧ VRel φ p.2 e.val) →
    keysI L = some ks → es.map (·.key) = ks.map (Value.int .i64) ∧ (∀ x ∈ ks, (Lit.int .i64 x).wf = true) ∧ ks.length = L.length
  | [], [], ks, _, _, h => by cases h; exact ⟨rfl, ⟨fun x hx => (List.not_mem_nil hx).elim, rfl⟩⟩
  | [], _ :: _, _, hl, _, _ => by cases hl
  | _ :: _, [], _, hl, _, _ => by cases hl
  | p :: L, e :: es, ks, hl, hr, h => by
    simp only [keysI] at h
    split at h
    · rename_i n hp
      cases hb : (decide (-9223372036854775808 ≤ n) && decide (n < 9223372036854775808)) with
      | false => rw [hb] at h; cases h
      | true =>
        rw [hb, cond_true] at h
        obtain ⟨ks', h1, rfl⟩ := map_some h
        obtain ⟨g1, g2, g3⟩ := keysI_spec L es ks' (by simpa using hl) (fun j p e hp he => hr (j + 1) p e (by simpa using hp) (by simpa using he)) h1
        have hk := (hr 0 p e rfl rfl).1
        simp only [Bool.and_eq_true, decide_eq_true_eq] at hb
        refine ⟨by simp [g1, hk, hp], ?_, by simp [g3]⟩
        intro x hx
        rcases List.mem_cons.1 hx with rfl | hx
        · have e1 : IntKind.i64.min = -9223372036854775808 := by decide
          have e2 : IntKind.i64.max = 9223372036854775807 := by decide
          simp only [Lit.wf, e1, e2, Bool.and_eq_true, decide_eq_true_eq]
          omega
        · exact g2 x hx
    · cases h
end Go.Ideal
namespace Go.Ideal
open Go
/-- What was there is as it was, and the world has grown: nothing known is lost. -/
theorem HRel.below {P : Program} {φ : Inj} {H : Heap} {w w' : World} (h : HRel P φ H w.heap) (hb : RowKit.Below w.heap.size w w') : HRel P φ H w'.heap ∧ Ext φ H w φ H w' := by
  refine ⟨⟨?_, h.dom, fun i l hi => Nat.lt_of_lt_of_le (h.low i l hi) hb.size, h.inj⟩, ⟨Inj.le.refl φ, Nat.le_refl _, fun _ _ h => h, fun i l h k => (by rw [h] at k; cases k), hb.os, hb.tape, hb.output, hb.size, fun b hbl _ => hb.block b hbl⟩⟩
  intro i l o hi ho
  exact (h.obj i l o hi ho).mono (Inj.le.refl φ) (hb.block _ (h.low i l hi))

theorem HRel.pushBelow {P : Program} {φ : Inj} {H : Heap} {w w' : World} (h : HRel P φ H w.heap) (hb : RowKit.Below w.heap.size w w') (o : IObj) (l : Loc) (h1 : w.heap.size ≤ l.blk) (h2 : l.blk < w'.heap.size)
    (ho : ORel P (φ.put H.n l) w'.heap l o) : HRel P (φ.put H.n l) (H.push o) w'.heap ∧ Ext φ H w (φ.put H.n l) (H.push o) w' := by
  have hfr := h.fresh
  have hle : φ.le (φ.put H.n l) := Inj.put_le hfr
  refine ⟨⟨?_, ?_, ?_, ?_⟩, ⟨hle, Nat.le_succ _, ?_, ?_, hb.os, hb.tape, hb.output, hb.size, fun b hbl _ => hb.block b hbl⟩⟩
  · intro i m oo hi hg
    rw [Heap.get_push] at hg
    unfold Inj.put at hi
    by_cases e : i = H.n
    · rw [if_pos e] at hi hg
      cases hi; cases hg
      exact ho
    · rw [if_neg e] at hi hg
      exact (h.obj i m oo hi hg).mono hle (hb.block _ (h.low i m hi))
  · intro i m hi
    unfold Inj.put at hi
    by_cases e : i = H.n
    · rw [e]; exact Nat.lt_succ_self _
    · rw [if_neg e] at hi; exact Nat.lt_succ_of_lt (h.dom i m hi)
  · intro i m hi
    unfold Inj.put at hi
    by_cases e : i = H.n
    · rw [if_pos e] at hi; cases hi; exact h2
    · rw [if_neg e] at hi; exact Nat.lt_of_lt_of_le (h.low i m hi) hb.size
  · intro i j m m' hi hj hne hw hv
    rw [Heap.get_push] at hw hv
    unfold Inj.put at hi hj
    by_cases e : i = H.n
    · rw [if_pos e] at hi; cases hi
      have e' : j ≠ H.n := fun e' => hne (e.trans e'.symm)
      rw [if_neg e'] at hj
      have := h.low j m' hj
      omega
    · rw [if_neg e] at hi hw
      by_cases e' : j = H.n
      · rw [if_pos e'] at hj; cases hj
        have := h.low i m hi
        omega
      · rw [if_neg e'] at hj hv
        exact h.inj i j m m' hi hj hne hw hv
  · intro i hi hw
    rw [Heap.get_push, if_neg (by omega)] at hw
    exact hw
  · intro i m hi h0
    unfold Inj.put at hi
    by_cases e : i = H.n
    · rw [if_pos e] at hi; cases hi
      exact ⟨by omega, .inl h1⟩
    · rw [if_neg e, h0] at hi; cases hi

theorem max_big : 17592186044415 ≤ maxLen := by
  have h : maxLen = 9223372036854775807 := by kernel_rfl
  rw [h]
  exact Nat.le_of_ble_eq_true rfl

open Go.Maps Go.RowKit in
/-- An ideal map of ints is a map that the kit reads. -/
theorem map_reads {P : Program} {t : TypeId} (hu : P.underlying t = some (.int .i64)) {φ : Inj} {L : List (Value × Value)} {es : Array MapEntry} {clock b : Nat} {ks : List Int} {w : World} (m1 : w.heap[b]? = some (.map es clock)) (m2 : es.size = L.length)
    (m3 : ∀ (j : Nat) p e, L[j]? = some p → es[j]? = some e → e.key = p.1 ∧ VRel φ p.2 e.val) (m4 : MapKept.Stamped es clock) (hks : keysI L = some ks) (hlen : ks.length ≤ 17592186044415) :
    ∃ (R : Value → Option (DataW Unit × List MemPlace)) (D0 : DataW Unit), w.ownsMap P t R b es.size D0 ∧ (intKeys D0).Perm ks ∧ Maps.size D0 = ks.length := by
  obtain ⟨q1, q2, q3⟩ := keysI_spec L es.toList ks (by simpa using m2) (fun j p e hp he => m3 j p e hp (by simpa using he)) hks
  let R : Value → Option (DataW Unit × List MemPlace) := fun _ => some (.nil, [])
  have hkey : ∀ x ∈ es.toList, ∃ n : Int, x.key = .int .i64 n ∧ (Lit.int .i64 n).wf = true := by
    intro x hx
    have : x.key ∈ ks.map (Value.int .i64) := by rw [← q1]; exact List.mem_map.2 ⟨x, hx, rfl⟩
    obtain ⟨n, hn, e⟩ := List.mem_map.1 this
    exact ⟨n, e.symm, q2 n hn⟩
  have hrd : ∀ x ∈ es.toList, ∀ n : Int, x.key = .int .i64 n → (Lit.int .i64 n).wf = true → WideElems.rd P t R x = some (.int .i64 n, .nil) := by
    intro x hx n hn hw
    simp [WideElems.rd, hn, Maps.keyOf_int_mk hu hw, R]
  have hfit : WideElems.Fit P t R es clock := ⟨by rw [m2, ← q3]; exact Nat.le_trans hlen max_big, m4, fun x hx => by
    obtain ⟨n, hn, hw⟩ := hkey x hx
    exact ⟨_, hrd x hx n hn hw⟩⟩
  have hperm : (intKeys (.map ((es.toList.map (WideElems.rg P t R)).foldr DataW.insert []) : DataW Unit)).Perm ks := by
    have h1 := (inserts_perm (es.toList.map (WideElems.rg P t R))).map (fun p => Go.intOf p.1)
    refine List.Perm.trans h1 ?_
    have h2 : (es.toList.map (WideElems.rg P t R)).map (fun p => Go.intOf p.1) = ks := by
      have h3 : ∀ x ∈ es.toList, Go.intOf (WideElems.rg P t R x).1 = (match x.key with | Value.int _ n => n | _ => 0) := by
        intro x hx
        obtain ⟨n, hn, hw⟩ := hkey x hx
        simp only [WideElems.rg, hrd x hx n hn hw, Option.getD_some, hn]
        rfl
      have h4 : es.toList.map (fun x => (match x.key with | Value.int _ n => n | _ => 0 : Int)) = (es.toList.map (·.key)).map (fun v => (match v with | Value.int _ n => n | _ => 0 : Int)) := by
        rw [List.map_map]; rfl
      rw [List.map_map]
      refine (List.map_congr_left (g := fun x => (match x.key with | Value.int _ n => n | _ => 0 : Int)) h3).trans ?_
      rw [h4, q1, List.map_map]
      exact List.map_id _
    rw [h2]
  refine ⟨R, _, ⟨es, clock, m1, hfit, Nat.le_refl _, rfl⟩, hperm, ?_⟩
  have := hperm.length_eq
  simpa [intKeys, Maps.size] using this

theorem row_in {P : Program} {t : TypeId} (he : esz P t = 1) {φ : Inj} {H : Heap} {w w' : World} (hh : HRel P φ H w.heap) (hbel : RowKit.Below w.heap.size w w') {ks : List Int} {n : Nat} {v' : Value} (hn : ks.length = n) (hne : ks ≠ [])
    (hrow : w'.ownsRow w.heap.size t 1 v' n (ks.map encZ)) : ∃ φ', VRel φ' (.slice (some ⟨H.n, 0, none⟩) n n) v' ∧ HRel P φ' (H.push (.cells (ks.map (Value.int .i64)) t false)) w'.heap ∧ Ext φ H w φ' (H.push (.cells (ks.map (Value.int .i64)) t false)) w' := by
  rcases hrow.2 with ⟨_, hz⟩ | ⟨gb, cap, cr, rfl, r0, r1, r2, r3, r4, r5⟩
  · rw [hz] at hn
    exact absurd (List.eq_nil_of_length_eq_zero hn) hne
  · have hgl : gb < w'.heap.size := (Array.getElem?_eq_some_iff.1 r1).1
    rw [Nat.mul_one] at r4 r5
    have hcl : cr.toList.length = cap := by rw [Array.length_toList]; exact r4
    obtain ⟨n1, n2⟩ := hh.pushBelow hbel (.cells (ks.map (Value.int .i64)) t false) ⟨gb, 0, cap, esz P t⟩ r0 hgl
      ⟨cr, 0, 0, r1, r4, esz_eq P t, (by rw [List.length_map, hn]; show 0 + n ≤ cap; omega), fun j x y hx hy => by
        have hj : j < n := by
          rcases Nat.lt_or_ge j (ks.map (Value.int .i64)).length with h' | h'
          · rw [List.length_map] at h'; omega
          · rw [List.getElem?_eq_none h'] at hx; cases hx
        have h7 : (cr.toList.take n)[j]? = some y := by
          rw [List.getElem?_take, if_pos hj]
          simpa using hy
        rw [r5] at h7
        have hx2 : (ks.map encZ)[j]? = some x := hx
        rw [hx2] at h7
        cases h7
        obtain ⟨n, hn, e⟩ := List.mem_map.1 (List.mem_of_getElem? hx2)
        rw [← e]
        exact .int _ _, fun _ k _ _ => by omega, fun _ => rfl⟩
    refine ⟨_, ?_, n1, n2⟩
    have hv := VRel.sgrown (φ := φ.put H.n ⟨gb, 0, cap, esz P t⟩) 0 n n cap (Inj.put_same ..) r2 (by rw [he]; show 0 + 0 + cap * 1 ≤ cap; omega)
    exact hv
end Go.Ideal

namespace Go.Proofs.Ythggbjpanpnlnaa
open Go Go.Proofs Go.RowKit Go.Maps Go.Sort Go.Shelf Go.Ideal

theorem sortsA (m : Nat) : AnyZI.SortsIn Try.prog Try.sortedA_ren Fence.wide m :=
  ⟨fun blk off cap ss W hH hblk hsz => callsIn_wide.2 (AnyM.slices_Sort_int Try.sortA blk off cap ss W hH hblk hsz),
   fun p cap W => callsIn_wide.2 (AnyM.slices_Sort_int_none Try.sortA p cap W)⟩

theorem sorted58 {A : Type} (p b nn : Nat) (D0 : DataW A) (R : Value → Option (DataW A × List MemPlace)) (w : World) (hp : w.cell? ⟨p, 0, none⟩ = some (.map (some b))) (hpl : p < w.heap.size) (hown : w.ownsMap Try.prog 3 R b nn D0) (hmax : Maps.size D0 ≤ maxLen) (hbytes : Maps.size D0 * 8 ≤ 140737488355328) :
    Calls Try.prog 34 #[.func (.func 58) #[] #[.pointer (some ⟨p, 0, none⟩)]] w fun e w' => ∃ (v : Value) (ss : List Int), e = .returned v ∧ ss.Perm (intKeys D0) ∧
      w'.ownsRow w.heap.size 3 1 v ss.length ((ss.mergeSort (fun x y => decide (x ≤ y))).map encZ) ∧ (v = .slice none 0 0 ↔ ss = []) ∧ Below w.heap.size w w' := by
  refine (callsIn_wide (n := 6)).1 ?_
  have hseq : SeqGives Fence.wide 3 Try.prog 58 #[.pointer (some ⟨p, 0, none⟩)] encZ (fun ss => ss.Perm (intKeys D0)) (Maps.size D0) w :=
    AnyZI.keys_gives (ρ := Try.keysA_ren) { Try.keysA with } Fence.wide _ trivial rfl (by omega) p b nn D0 _ hpl hp hown
  exact AnyZI.sorted_in Try.sortedA Fence.wide 6 trivial trivial trivial trivial rfl (by omega) (sortsA _) (enters_of Try.func57 (by kernel_rfl) rfl) 58 #[.pointer (some ⟨p, 0, none⟩)] trivial (enters_of Try.func58 (by kernel_rfl) rfl) _ _ hmax hbytes _ hseq

theorem sorted64 {A : Type} (p b nn : Nat) (D0 : DataW A) (R : Value → Option (DataW A × List MemPlace)) (w : World) (hp : w.cell? ⟨p, 0, none⟩ = some (.map (some b))) (hpl : p < w.heap.size) (hown : w.ownsMap Try.prog 3 R b nn D0) (hmax : Maps.size D0 ≤ maxLen) (hbytes : Maps.size D0 * 8 ≤ 140737488355328) :
    Calls Try.prog 34 #[.func (.func 64) #[] #[.pointer (some ⟨p, 0, none⟩)]] w fun e w' => ∃ (v : Value) (ss : List Int), e = .returned v ∧ ss.Perm (intKeys D0) ∧
      w'.ownsRow w.heap.size 3 1 v ss.length ((ss.mergeSort (fun x y => decide (x ≤ y))).map encZ) ∧ (v = .slice none 0 0 ↔ ss = []) ∧ Below w.heap.size w w' := by
  refine (callsIn_wide (n := 6)).1 ?_
  have hseq : SeqGives Fence.wide 3 Try.prog 64 #[.pointer (some ⟨p, 0, none⟩)] encZ (fun ss => ss.Perm (intKeys D0)) (Maps.size D0) w :=
    AnyZI.keys_gives (ρ := Try.keysB_ren) { Try.keysB with } Fence.wide _ trivial rfl (by omega) p b nn D0 _ hpl hp hown
  exact AnyZI.sorted_in Try.sortedA Fence.wide 6 trivial trivial trivial trivial rfl (by omega) (sortsA _) (enters_of Try.func57 (by kernel_rfl) rfl) 64 #[.pointer (some ⟨p, 0, none⟩)] trivial (enters_of Try.func64 (by kernel_rfl) rfl) _ _ hmax hbytes _ hseq

theorem Sorted_good (G : Nat) : GoodAt Try.prog G 34 (iSorted (fun g => Nat.beq g 58 || Nat.beq g 64) (fun e => Nat.beq e 64 || Nat.beq e 78) 3) := by
  intro args H v H' h φ w args' hh hg hl
  unfold iSorted at h
  split at h
  · rename_i g a b
    replace h := chk_some h; obtain ⟨hc, h⟩ := h
    rw [Bool.and_eq_true, Bool.or_eq_true] at hc
    split at h
    · rename_i p hb
      replace h := bind_some h; obtain ⟨⟨row, e, fx⟩, hr, h⟩ := h
      replace h := chk_some h; obtain ⟨hm, h⟩ := h
      split at h
      · rename_i mm hrow
        simp only at hrow
        subst hrow
        split at h
        · rename_i L hgL
          replace h := bind_some h; obtain ⟨ks, hks, h⟩ := h
          replace h := chk_some h; obtain ⟨hlen, h⟩ := h
          have hlen := Nat.le_of_ble_eq_true hlen
          -- the arguments
          obtain ⟨f', rfl, hf⟩ := hl.one
          cases hf with
          | func _ _ _ a' b' ha hb' h1 h2 =>
            have haL : a = #[] := by
              have := hc.2
              obtain ⟨l⟩ := a
              simp at this
              rw [this]
            subst haL
            have ha' : a' = #[] := Array.eq_empty_of_size_eq_zero (by rw [← ha]; rfl)
            subst ha'
            have hbL : b = #[.pointer (some ⟨p, 0, none⟩)] := Array.ext' (by simpa using hb)
            subst hbL
            have hbs : b'.size = 1 := by rw [← hb']; rfl
            obtain ⟨y, hy⟩ : ∃ y, b' = #[y] := by
              obtain ⟨l⟩ := b'
              match l, hbs with
              | [y], _ => exact ⟨y, rfl⟩
            subst hy
            have hy := h2 0 _ _ rfl rfl
            obtain ⟨l, hlp, rfl⟩ := hy.ptr_inv
            have hgp := rowOf_some hr
            obtain ⟨cur, lo, hi, k1, k2, k3, k4, k5, k6, k7⟩ := hh.obj p l _ hlp hgp
            have hme : mapElem Try.prog e = true := by
              simp only [Bool.or_eq_true] at hm
              rcases hm with hm | hm
              · rw [Nat.eq_of_beq_eq_true hm]; kernel_rfl
              · rw [Nat.eq_of_beq_eq_true hm]; kernel_rfl
            have hoff := k7 hme
            obtain ⟨y, hcell, hvy⟩ := hh.cell (o := 0) hlp hgp rfl
            rw [hoff] at hcell
            cases hvy with
            | map hmL =>
              rename_i lm
              obtain ⟨es, clock, m1, m2, m3, m4⟩ := hh.obj mm lm _ hmL hgL
              obtain ⟨R, D0, hown, hperm, hsz⟩ := map_reads (P := Try.prog) (t := 3) Try.underlying3 m1 m2 m3 m4 hks hlen
              have hkl : Maps.size D0 ≤ 17592186044415 := by rw [hsz]; exact hlen
              have hmaxL : 17592186044415 ≤ maxLen := max_big
              have hpl : l.blk < w.heap.size := hh.low p l hlp
              have hcall : Calls Try.prog 34 #[.func (.func g) #[] #[.pointer (some ⟨l.blk, 0, none⟩)]] w fun e w' => ∃ (v : Value) (ss : List Int), e = .returned v ∧ ss.Perm (intKeys D0) ∧
                  w'.ownsRow w.heap.size 3 1 v ss.length ((ss.mergeSort (fun x y => decide (x ≤ y))).map encZ) ∧ (v = .slice none 0 0 ↔ ss = []) ∧ Below w.heap.size w w' := by
                rcases hc.1 with e58 | e64
                · rw [Nat.eq_of_beq_eq_true e58]
                  exact sorted58 l.blk lm.blk es.size D0 R w hcell hpl hown (by omega) (by omega)
                · rw [Nat.eq_of_beq_eq_true e64]
                  exact sorted64 l.blk lm.blk es.size D0 R w hcell hpl hown (by omega) (by omega)
              rw [hoff]
              refine Calls.mono hcall ?_
              rintro e w' ⟨v', ss, rfl, hss, hrow, hnil, hbel⟩
              have hmerge : ss.mergeSort (fun x y => decide (x ≤ y)) = sortI ks := merge_sortI (hss.trans hperm)
              have hlenS : (sortI ks).length = ss.length := by rw [(sortI_perm ks).length_eq, (hss.trans hperm).length_eq]
              rw [hmerge] at hrow
              cases hS : sortI ks with
              | nil =>
                rw [hS] at h
                cases h
                have hss0 : ss = [] := List.eq_nil_of_length_eq_zero (by rw [← hlenS, hS]; rfl)
                obtain ⟨n1, n2⟩ := hh.below hbel
                exact ⟨v', φ, rfl, by rw [hnil.2 hss0]; exact .snil, n1, n2⟩
              | cons k l0 =>
                rw [hS] at h hrow hlenS
                cases h
                obtain ⟨φ', n0, n1, n2⟩ := row_in (P := Try.prog) (t := 3) (by kernel_rfl) hh hbel hlenS (fun e => by cases e) hrow
                have hl1 : l0.length + 1 = ss.length := hlenS
                rw [hl1]
                exact ⟨v', φ', rfl, n0, n1, n2⟩
        · cases h
      · cases h
    · cases h
  · cases h
end Go.Proofs.Ythggbjpanpnlnaa

/- The machine of this seat; chapter 20's examples hold: 'shown' of the law answers true. -/
namespace Go.Proofs.Ythggbjpanpnlnaa
open Go Go.Ideal

noncomputable def I0 : FuncId → Option (List Value → Heap → Option (Value × Heap)) := fun g => bif Nat.beq g 34 then some (iSorted (fun g => Nat.beq g 58 || Nat.beq g 64) (fun e => Nat.beq e 64 || Nat.beq e 78) 3) else none

theorem enters34 : Enters Try.prog 34 := table.enters (g := 34) (fn := Try.f34) (c := _) (by kernel_rfl) rfl

theorem intr (G : Nat) : Intr Try.prog G I0 := by
  constructor
  · intro g sem h
    unfold I0 at h
    cases hb : Nat.beq g 34 with
    | true =>
      rw [hb] at h
      cases h
      rw [Nat.eq_of_beq_eq_true hb]
      exact Sorted_good G
    | false => rw [hb] at h; cases h
  · intro g sem h
    unfold I0 at h
    cases hb : Nat.beq g 34 with
    | true => rw [Nat.eq_of_beq_eq_true hb]; exact enters34
    | false => rw [hb] at h; cases h

theorem shown_run : (run Try.prog 0 tab I0 200 9 [] .empty).map (·.1) = some (.bool true) := by kernel_rfl

theorem shown_calls (w : World) : Calls Try.prog 9 #[] w fun e w' => e = .returned (.bool true) ∧ RowKit.Below w.heap.size w w' :=
  closed table (intr 0) 200 (args := []) rfl shown_run rfl w
#print axioms shown_calls
end Go.Proofs.Ythggbjpanpnlnaa

/- The machine of this seat: slices.Sort of ints answers in place. -/
namespace Go.Ideal
open Go
def intsV : List Value → Option (List Int)
  | [] => some []
  | .int .i64 n :: l => (intsV l).map (n :: ·)
  | _ => none
theorem intsV_map : ∀ {l : List Value} {zs : List Int}, intsV l = some zs → l = zs.map (Value.int .i64)
  | [], zs, h => by cases h; rfl
  | v :: l, zs, h => by
    cases v with
    | int k n =>
      cases k with
      | i64 =>
        obtain ⟨zs', h1, rfl⟩ := map_some (show (intsV l).map (n :: ·) = some zs from h)
        rw [List.map_cons, ← intsV_map h1]
      | _ => cases h
    | _ => cases h
theorem intsV_of : ∀ (zs : List Int), intsV (zs.map (Value.int .i64)) = some zs
  | [] => rfl
  | z :: zs => by rw [List.map_cons, intsV, intsV_of zs]; rfl

/-- slices.Sort of ints. -/
def iSort (args : List Value) (H : Heap) : Option (Value × Heap) :=
  match args with
  | [.slice none 0 0] => some (.tuple #[], H)
  | [.slice (some ⟨b, o, _⟩) n _] => bif Nat.beq n 0 then some (.tuple #[], H) else (rowOf H b).bind fun r => chk (!r.2.2 && Nat.ble (o + n) r.1.length && Nat.ble n 1000000000) ((intsV (cut r.1 o n)).map fun zs => (.tuple #[], H.put b (.cells (splice r.1 o ((sortI zs).map (Value.int .i64))) r.2.1 false)))
  | _ => none

theorem putRow_eq {w : World} {g : Nat} {cur : Array Value} {e : TypeId} {fr : Nat × Nat} (hg : w.heap[g]? = some (.cells cur e fr)) (o : Nat) (d : List Int) (hle : o + d.length ≤ cur.size) :
    Sort.putRow (Value.int .i64) w g o d.toArray = w.putI g (.cells (splice cur.toList o (d.map (Value.int .i64))).toArray e fr) := by
  have hlt := (Array.getElem?_eq_some_iff.1 hg).1
  have hgv := (Array.getElem?_eq_some_iff.1 hg).2
  have hcells : Sort.putCells (Value.int .i64) o d.toArray cur = (splice cur.toList o (d.map (Value.int .i64))).toArray := by
    apply Array.ext'
    apply List.ext_getElem?
    intro k
    have hsp : o + (d.map (Value.int .i64)).length ≤ cur.toList.length := by simpa using hle
    rw [splice_get hsp]
    simp only [Sort.putCells, Array.toList_mapIdx, List.getElem?_mapIdx, List.length_map, Array.getElem?_toList]
    by_cases h1 : k < o
    · rw [if_pos h1]
      cases hc : cur[k]? with
      | none => rfl
      | some x => simp [show ¬ o ≤ k from by omega]
    · rw [if_neg h1]
      by_cases h2 : k < o + d.length
      · rw [if_pos h2]
        have hk : k < cur.size := by omega
        rw [Array.getElem?_eq_getElem hk]
        have hd : k - o < d.length := by omega
        simp only [Option.map_some, List.size_toArray]
        rw [if_pos ⟨by omega, h2⟩, List.getElem?_map, List.getElem?_eq_getElem hd]
        simp [getElem!_pos, hd]
      · rw [if_neg h2]
        cases hc : cur[k]? with
        | none => rfl
        | some x => simp [show ¬ (o ≤ k ∧ k < o + d.length) from by omega]
  unfold Sort.putRow Sort.mapBlock World.putI
  congr 1
  apply Array.ext
  · simp
  · intro i h1 h2
    simp only [Array.getElem_setIfInBounds, Array.getElem_modify]
    by_cases hi : g = i
    · subst hi
      simp only [if_true]
      rw [hgv]
      show Obj.cells (Sort.putCells (Value.int .i64) o d.toArray cur) e fr = _
      rw [hcells]
      simp
    · simp only [hi, if_false]
      rw [Array.getElem_setIfInBounds_ne _ hi]
end Go.Ideal

namespace Go.Proofs.Ythggbjpanpnlnaa
open Go Go.Proofs Go.RowKit Go.Sort Go.Shelf Go.Ideal
theorem Sort_good (G : Nat) : GoodAt Try.prog G 57 iSort := by
  intro args H v H' h φ w args' hh hg hl
  unfold iSort at h
  split at h
  · cases h
    obtain ⟨y, rfl, hy⟩ := hl.one
    cases hy with
    | snil =>
      refine Calls.mono (AnyM.slices_Sort_int_none Try.sortA none 0 w) ?_
      rintro e w' ⟨rfl, rfl⟩
      exact ⟨_, φ, rfl, .tuple _ _ rfl (fun i x y hx => by simp at hx), hh, Ext.refl ..⟩
  · rename_i b o sp n c
    rcases bif_some h with ⟨hn0, h⟩ | ⟨hn0, h⟩
    · have hn0 := Nat.eq_of_beq_eq_true hn0
      subst hn0
      cases h
      obtain ⟨y, rfl, hy⟩ := hl.one
      obtain ⟨l, r, p, c', hφ, rfl, _⟩ := hy.slice_inv
      refine Calls.mono (AnyM.slices_Sort_int_none Try.sortA (some ⟨r, p, none⟩) c' w) ?_
      rintro e w' ⟨rfl, rfl⟩
      exact ⟨_, φ, rfl, .tuple _ _ rfl (fun i x y hx => by simp at hx), hh, Ext.refl ..⟩
    have hn0 : n ≠ 0 := fun e => by rw [e] at hn0; cases hn0
    obtain ⟨⟨row, e, fx⟩, hr, h⟩ := bind_some h
    obtain ⟨hc, h⟩ := chk_some h
    simp only [Bool.and_eq_true, Bool.not_eq_true'] at hc
    obtain ⟨⟨hfx, hle⟩, hn⟩ := hc
    have hle := Nat.le_of_ble_eq_true hle
    have hn := Nat.le_of_ble_eq_true hn
    have hfx : fx = false := hfx
    subst hfx
    obtain ⟨zs, hz, he⟩ := map_some h
    cases he
    obtain ⟨y, rfl, hy⟩ := hl.one
    have hget := rowOf_some hr
    have hzs := intsV_map hz
    have hzl : zs.length = n := by
      have := congrArg List.length hzs
      rw [cut_length hle, List.length_map] at this
      exact this.symm
    obtain ⟨l, r, p, c', hφ, rfl, hor⟩ := hy.slice_inv
    obtain ⟨cur, lo, hi, k1, k2, k3, k4, k5, k6, k7⟩ := hh.obj b l _ hφ hget
    have hfree := k6 rfl
    have hblk : l.blk < w.heap.size := hh.low b l hφ
    have main : Calls Try.prog 57 #[.slice (some ⟨l.blk, l.off + o, none⟩) n c'] w fun e' w' => ∃ v' φ', e' = .returned v' ∧ VRel φ' (.tuple #[]) v' ∧ HRel Try.prog φ' (H.put b (.cells (splice row o ((sortI zs).map (Value.int .i64))) e false)) w'.heap ∧ Ext φ H w φ' (H.put b (.cells (splice row o ((sortI zs).map (Value.int .i64))) e false)) w' := by
      have hcell : ∀ j, j < zs.length → cur[l.off + o + j]? = some (.int .i64 (zs.getD j 0)) := by
        intro j hj
        have h1 : row[o + j]? = some (.int .i64 (zs.getD j 0)) := by
          have h2 : (cut row o n)[j]? = some (.int .i64 (zs.getD j 0)) := by
            rw [hzs, List.getElem?_map, List.getElem?_eq_getElem hj, List.getD_eq_getElem?_getD, List.getElem?_eq_getElem hj]
            rfl
          rw [cut_get, if_pos (by omega)] at h2
          exact h2
        have hlt : l.off + o + j < cur.size := by omega
        have h3 := k5 (o + j) _ _ h1 (by rw [show l.off + (o + j) = l.off + o + j from by omega]; exact Array.getElem?_eq_getElem hlt)
        rw [Array.getElem?_eq_getElem hlt]
        have := h3.same 3 rfl
        rw [this]
      have hH : Holds (Value.int .i64) w l.blk (l.off + o) zs.toArray := by
        intro j hj
        have hj : j < zs.length := by simpa using hj
        have hg : (zs.toArray)[j]! = zs.getD j 0 := by
          rw [getElem!_pos _ _ (by simpa using hj)]
          simp [List.getD_eq_getElem?_getD, List.getElem?_eq_getElem hj]
        rw [hg]
        have h1 := hcell j hj
        refine ⟨?_, ?_⟩
        · simp only [World.cell?, k1]
          simpa using h1
        · simp only [World.frozen?, k1]
          have := hfree (l.off + o + j) (by omega) (by omega)
          simp
          omega
      have hcall := AnyM.slices_Sort_int Try.sortA l.blk (l.off + o) c' zs w hH hblk (by omega)
      rw [hzl] at hcall
      refine Calls.mono hcall ?_
      rintro e' w' ⟨rfl, m, os, rfl⟩
      have hms : zs.mergeSort (fun x y => decide (x ≤ y)) = sortI zs := merge_sortI (List.Perm.refl _)
      have hsl : (sortI zs).length = n := by rw [(sortI_perm zs).length_eq, hzl]
      rw [hms]
      have hah : (Sort.ahead w m).heap[l.blk]? = some (.cells cur e (lo, hi)) := k1
      rw [putRow_eq hah (l.off + o) (sortI zs) (by omega)]
      have hrel : HRel Try.prog φ H (Sort.ahead w m).heap := hh
      obtain ⟨w1, s1, s2, s3⟩ := hrel.storeRow (w := Sort.ahead w m) (o := o) (vs := (sortI zs).map (Value.int .i64)) (vs' := (sortI zs).map (Value.int .i64)) hφ hget (by rw [List.length_map, hsl]; exact hle) rfl
        (fun j x y hx hy => by
          rw [hx] at hy; cases hy
          obtain ⟨z, _, rfl⟩ := List.mem_map.1 (List.mem_of_getElem? hx)
          exact .int _ _) (fun v hv => by obtain ⟨z, _, rfl⟩ := List.mem_map.1 hv; rfl)
      have hrun := run_stores (P := Try.prog) l.blk (l.off + o) e lo hi ((sortI zs).map (Value.int .i64)) 0 cur (Sort.ahead w m) hah (by rw [List.length_map, hsl]; omega) (fun k h3 h4 => hfree k (by omega) (by rw [List.length_map, hsl] at h4; omega)) (fun v hv => by obtain ⟨z, _, rfl⟩ := List.mem_map.1 hv; rfl)
      simp only [Nat.add_zero] at hrun
      rw [hrun] at s1
      cases s1
      have hbel : RowKit.Below ((Sort.ahead w m).putI l.blk (.cells (splice cur.toList (l.off + o) ((sortI zs).map (Value.int .i64))).toArray e (lo, hi))).heap.size ((Sort.ahead w m).putI l.blk (.cells (splice cur.toList (l.off + o) ((sortI zs).map (Value.int .i64))).toArray e (lo, hi))) (Sort.grow ((Sort.ahead w m).putI l.blk (.cells (splice cur.toList (l.off + o) ((sortI zs).map (Value.int .i64))).toArray e (lo, hi))) os) := by
        refine ⟨rfl, rfl, rfl, ?_, fun b hb => ?_⟩
        · simp [Sort.grow]
        · simp only [Sort.grow]
          rw [Array.getElem?_append_left hb]
      obtain ⟨n1, n2⟩ := s2.below hbel
      refine ⟨_, φ, rfl, .tuple _ _ rfl (fun i x y hx => by simp at hx), n1, ?_⟩
      have hext : Ext φ H w φ H (Sort.ahead w m) := ⟨Inj.le.refl φ, Nat.le_refl _, fun _ _ h => h, fun i l h k => (by rw [h] at k; cases k), rfl, rfl, rfl, Nat.le_refl _, fun _ _ _ => rfl⟩
      exact (hext.trans hh.dom s3).trans hh.dom n2
    rcases hor with ⟨_, e1, rfl, rfl⟩ | ⟨_, _, rfl, rfl, _⟩ | ⟨_, rfl, rfl, rfl⟩
    · exact main
    · exact main
    · exact absurd rfl hn0
  · cases h
end Go.Proofs.Ythggbjpanpnlnaa
