/- Facts on the program's types and functions. -/
import Derived.Test.YtpggmebgndkpjaaDoorSym
import Derived.Test.YtpggmebgndkpjaaDoorProg
namespace Go.Proofs.YtpggmebgndkpjaaDoor
set_option linter.all false
open Go Go.RowKit
theorem eg22 : Tryd.prog.eqGuardType Tryd.prog.depth 22 = false := by kernel_rfl
theorem eg23 : Tryd.prog.eqGuardType Tryd.prog.depth 23 = false := by kernel_rfl
theorem eg35 : Tryd.prog.eqGuardType Tryd.prog.depth 35 = false := by kernel_rfl
theorem eg36 : Tryd.prog.eqGuardType Tryd.prog.depth 36 = false := by kernel_rfl
theorem eg44 : Tryd.prog.eqGuardType Tryd.prog.depth 44 = false := by kernel_rfl
theorem eg45 : Tryd.prog.eqGuardType Tryd.prog.depth 45 = false := by kernel_rfl
theorem eg72 : Tryd.prog.eqGuardType Tryd.prog.depth 72 = false := by kernel_rfl
theorem eg73 : Tryd.prog.eqGuardType Tryd.prog.depth 73 = false := by kernel_rfl
theorem eg120 : Tryd.prog.eqGuardType Tryd.prog.depth 120 = false := by kernel_rfl
theorem eg145 : Tryd.prog.eqGuardType Tryd.prog.depth 145 = false := by kernel_rfl
theorem fl7 : flq Tryd.prog 7 = some [(0, 1), (1, 1), (2, 1), (3, 1)] := by kernel_rfl
theorem fl8 : flq Tryd.prog 8 = some [(0, 1), (1, 1), (2, 1), (3, 1)] := by kernel_rfl
theorem fl13 : flq Tryd.prog 13 = some [(0, 1), (1, 1)] := by kernel_rfl
theorem fl14 : flq Tryd.prog 14 = some [(0, 1), (1, 1)] := by kernel_rfl
theorem fl18 : flq Tryd.prog 18 = some [(0, 1)] := by kernel_rfl
theorem fl19 : flq Tryd.prog 19 = some [(0, 1)] := by kernel_rfl
theorem fl22 : flq Tryd.prog 22 = some [(0, 1), (1, 1), (2, 1), (3, 1)] := by kernel_rfl
theorem fl23 : flq Tryd.prog 23 = some [(0, 1), (1, 1), (2, 1), (3, 1)] := by kernel_rfl
theorem fl35 : flq Tryd.prog 35 = some [(0, 1), (1, 1), (2, 1)] := by kernel_rfl
theorem fl36 : flq Tryd.prog 36 = some [(0, 1), (1, 1), (2, 1)] := by kernel_rfl
theorem fl46 : flq Tryd.prog 46 = some [(0, 1), (1, 4), (5, 1), (6, 4), (10, 4)] := by kernel_rfl
theorem fl47 : flq Tryd.prog 47 = some [(0, 1), (1, 4), (5, 1), (6, 4), (10, 4)] := by kernel_rfl
theorem fl72 : flq Tryd.prog 72 = some [(0, 1), (1, 1), (2, 1)] := by kernel_rfl
theorem fl73 : flq Tryd.prog 73 = some [(0, 1), (1, 1), (2, 1)] := by kernel_rfl
theorem fl77 : flq Tryd.prog 77 = some [(0, 1), (1, 1)] := by kernel_rfl
theorem fl78 : flq Tryd.prog 78 = some [(0, 1), (1, 1)] := by kernel_rfl
theorem fl151 : flq Tryd.prog 151 = some [(0, 1)] := by kernel_rfl
theorem fl152 : flq Tryd.prog 152 = some [(0, 1)] := by kernel_rfl
theorem fl155 : flq Tryd.prog 155 = some [(0, 1), (1, 1), (2, 1), (3, 1)] := by kernel_rfl
theorem fl156 : flq Tryd.prog 156 = some [(0, 1), (1, 1), (2, 1), (3, 1)] := by kernel_rfl
theorem fl158 : flq Tryd.prog 158 = some [(0, 0)] := by kernel_rfl
theorem fl159 : flq Tryd.prog 159 = some [(0, 0)] := by kernel_rfl
theorem fl166 : flq Tryd.prog 166 = some [(0, 1), (1, 1), (2, 1), (3, 1), (4, 1), (5, 1), (6, 1), (7, 1), (8, 1), (9, 1), (10, 1)] := by kernel_rfl
theorem fl167 : flq Tryd.prog 167 = some [(0, 1), (1, 1), (2, 1), (3, 1), (4, 1), (5, 1), (6, 1), (7, 1), (8, 1), (9, 1), (10, 1)] := by kernel_rfl
theorem fo2 : (Tryd.f2.name != "runtime.NumGoroutine" && Tryd.f2.body.isSome) = true := by kernel_rfl
theorem fo3 : (Tryd.f3.name != "runtime.NumGoroutine" && Tryd.f3.body.isSome) = true := by kernel_rfl
theorem fo4 : (Tryd.f4.name != "runtime.NumGoroutine" && Tryd.f4.body.isSome) = true := by kernel_rfl
theorem fo5 : (Tryd.f5.name != "runtime.NumGoroutine" && Tryd.f5.body.isSome) = true := by kernel_rfl
theorem fo6 : (Tryd.f6.name != "runtime.NumGoroutine" && Tryd.f6.body.isSome) = true := by kernel_rfl
theorem fo7 : (Tryd.f7.name != "runtime.NumGoroutine" && Tryd.f7.body.isSome) = true := by kernel_rfl
theorem fo8 : (Tryd.f8.name != "runtime.NumGoroutine" && Tryd.f8.body.isSome) = true := by kernel_rfl
theorem fo9 : (Tryd.f9.name != "runtime.NumGoroutine" && Tryd.f9.body.isSome) = true := by kernel_rfl
theorem fo10 : (Tryd.f10.name != "runtime.NumGoroutine" && Tryd.f10.body.isSome) = true := by kernel_rfl
theorem fo11 : (Tryd.f11.name != "runtime.NumGoroutine" && Tryd.f11.body.isSome) = true := by kernel_rfl
theorem fo12 : (Tryd.f12.name != "runtime.NumGoroutine" && Tryd.f12.body.isSome) = true := by kernel_rfl
theorem fo13 : (Tryd.f13.name != "runtime.NumGoroutine" && Tryd.f13.body.isSome) = true := by kernel_rfl
theorem fo14 : (Tryd.f14.name != "runtime.NumGoroutine" && Tryd.f14.body.isSome) = true := by kernel_rfl
theorem fo15 : (Tryd.f15.name != "runtime.NumGoroutine" && Tryd.f15.body.isSome) = true := by kernel_rfl
theorem fo16 : (Tryd.f16.name != "runtime.NumGoroutine" && Tryd.f16.body.isSome) = true := by kernel_rfl
theorem fo17 : (Tryd.f17.name != "runtime.NumGoroutine" && Tryd.f17.body.isSome) = true := by kernel_rfl
theorem fo18 : (Tryd.f18.name != "runtime.NumGoroutine" && Tryd.f18.body.isSome) = true := by kernel_rfl
theorem fo19 : (Tryd.f19.name != "runtime.NumGoroutine" && Tryd.f19.body.isSome) = true := by kernel_rfl
theorem fo20 : (Tryd.f20.name != "runtime.NumGoroutine" && Tryd.f20.body.isSome) = true := by kernel_rfl
theorem fo21 : (Tryd.f21.name != "runtime.NumGoroutine" && Tryd.f21.body.isSome) = true := by kernel_rfl
theorem fo22 : (Tryd.f22.name != "runtime.NumGoroutine" && Tryd.f22.body.isSome) = true := by kernel_rfl
theorem fo23 : (Tryd.f23.name != "runtime.NumGoroutine" && Tryd.f23.body.isSome) = true := by kernel_rfl
theorem fo24 : (Tryd.f24.name != "runtime.NumGoroutine" && Tryd.f24.body.isSome) = true := by kernel_rfl
theorem fo25 : (Tryd.f25.name != "runtime.NumGoroutine" && Tryd.f25.body.isSome) = true := by kernel_rfl
theorem fo26 : (Tryd.f26.name != "runtime.NumGoroutine" && Tryd.f26.body.isSome) = true := by kernel_rfl
theorem fo27 : (Tryd.f27.name != "runtime.NumGoroutine" && Tryd.f27.body.isSome) = true := by kernel_rfl
theorem fo28 : (Tryd.f28.name != "runtime.NumGoroutine" && Tryd.f28.body.isSome) = true := by kernel_rfl
theorem fo29 : (Tryd.f29.name != "runtime.NumGoroutine" && Tryd.f29.body.isSome) = true := by kernel_rfl
theorem fo30 : (Tryd.f30.name != "runtime.NumGoroutine" && Tryd.f30.body.isSome) = true := by kernel_rfl
theorem fo31 : (Tryd.f31.name != "runtime.NumGoroutine" && Tryd.f31.body.isSome) = true := by kernel_rfl
theorem fo32 : (Tryd.f32.name != "runtime.NumGoroutine" && Tryd.f32.body.isSome) = true := by kernel_rfl
theorem fo33 : (Tryd.f33.name != "runtime.NumGoroutine" && Tryd.f33.body.isSome) = true := by kernel_rfl
theorem fo34 : (Tryd.f34.name != "runtime.NumGoroutine" && Tryd.f34.body.isSome) = true := by kernel_rfl
theorem fo35 : (Tryd.f35.name != "runtime.NumGoroutine" && Tryd.f35.body.isSome) = true := by kernel_rfl
theorem fo36 : (Tryd.f36.name != "runtime.NumGoroutine" && Tryd.f36.body.isSome) = true := by kernel_rfl
theorem fo37 : (Tryd.f37.name != "runtime.NumGoroutine" && Tryd.f37.body.isSome) = true := by kernel_rfl
theorem fo38 : (Tryd.f38.name != "runtime.NumGoroutine" && Tryd.f38.body.isSome) = true := by kernel_rfl
theorem fo39 : (Tryd.f39.name != "runtime.NumGoroutine" && Tryd.f39.body.isSome) = true := by kernel_rfl
theorem fo40 : (Tryd.f40.name != "runtime.NumGoroutine" && Tryd.f40.body.isSome) = true := by kernel_rfl
theorem fo41 : (Tryd.f41.name != "runtime.NumGoroutine" && Tryd.f41.body.isSome) = true := by kernel_rfl
theorem fo42 : (Tryd.f42.name != "runtime.NumGoroutine" && Tryd.f42.body.isSome) = true := by kernel_rfl
theorem fo43 : (Tryd.f43.name != "runtime.NumGoroutine" && Tryd.f43.body.isSome) = true := by kernel_rfl
theorem fo44 : (Tryd.f44.name != "runtime.NumGoroutine" && Tryd.f44.body.isSome) = true := by kernel_rfl
theorem fo45 : (Tryd.f45.name != "runtime.NumGoroutine" && Tryd.f45.body.isSome) = true := by kernel_rfl
theorem fo46 : (Tryd.f46.name != "runtime.NumGoroutine" && Tryd.f46.body.isSome) = true := by kernel_rfl
theorem fo47 : (Tryd.f47.name != "runtime.NumGoroutine" && Tryd.f47.body.isSome) = true := by kernel_rfl
theorem fo48 : (Tryd.f48.name != "runtime.NumGoroutine" && Tryd.f48.body.isSome) = true := by kernel_rfl
theorem fo49 : (Tryd.f49.name != "runtime.NumGoroutine" && Tryd.f49.body.isSome) = true := by kernel_rfl
theorem fo50 : (Tryd.f50.name != "runtime.NumGoroutine" && Tryd.f50.body.isSome) = true := by kernel_rfl
theorem fo51 : (Tryd.f51.name != "runtime.NumGoroutine" && Tryd.f51.body.isSome) = true := by kernel_rfl
theorem fo52 : (Tryd.f52.name != "runtime.NumGoroutine" && Tryd.f52.body.isSome) = true := by kernel_rfl
theorem fo53 : (Tryd.f53.name != "runtime.NumGoroutine" && Tryd.f53.body.isSome) = true := by kernel_rfl
theorem fo54 : (Tryd.f54.name != "runtime.NumGoroutine" && Tryd.f54.body.isSome) = true := by kernel_rfl
theorem fo55 : (Tryd.f55.name != "runtime.NumGoroutine" && Tryd.f55.body.isSome) = true := by kernel_rfl
theorem fo56 : (Tryd.f56.name != "runtime.NumGoroutine" && Tryd.f56.body.isSome) = true := by kernel_rfl
theorem fo57 : (Tryd.f57.name != "runtime.NumGoroutine" && Tryd.f57.body.isSome) = true := by kernel_rfl
theorem fo58 : (Tryd.f58.name != "runtime.NumGoroutine" && Tryd.f58.body.isSome) = true := by kernel_rfl
theorem fo59 : (Tryd.f59.name != "runtime.NumGoroutine" && Tryd.f59.body.isSome) = true := by kernel_rfl
theorem fo60 : (Tryd.f60.name != "runtime.NumGoroutine" && Tryd.f60.body.isSome) = true := by kernel_rfl
theorem fo61 : (Tryd.f61.name != "runtime.NumGoroutine" && Tryd.f61.body.isSome) = true := by kernel_rfl
theorem fo62 : (Tryd.f62.name != "runtime.NumGoroutine" && Tryd.f62.body.isSome) = true := by kernel_rfl
theorem fo63 : (Tryd.f63.name != "runtime.NumGoroutine" && Tryd.f63.body.isSome) = true := by kernel_rfl
theorem fo64 : (Tryd.f64.name != "runtime.NumGoroutine" && Tryd.f64.body.isSome) = true := by kernel_rfl
theorem fo65 : (Tryd.f65.name != "runtime.NumGoroutine" && Tryd.f65.body.isSome) = true := by kernel_rfl
theorem fo66 : (Tryd.f66.name != "runtime.NumGoroutine" && Tryd.f66.body.isSome) = true := by kernel_rfl
theorem fo68 : (Tryd.f68.name != "runtime.NumGoroutine" && Tryd.f68.body.isSome) = true := by kernel_rfl
theorem fo69 : (Tryd.f69.name != "runtime.NumGoroutine" && Tryd.f69.body.isSome) = true := by kernel_rfl
theorem fo70 : (Tryd.f70.name != "runtime.NumGoroutine" && Tryd.f70.body.isSome) = true := by kernel_rfl
theorem fo71 : (Tryd.f71.name != "runtime.NumGoroutine" && Tryd.f71.body.isSome) = true := by kernel_rfl
theorem fo72 : (Tryd.f72.name != "runtime.NumGoroutine" && Tryd.f72.body.isSome) = true := by kernel_rfl
theorem fo73 : (Tryd.f73.name != "runtime.NumGoroutine" && Tryd.f73.body.isSome) = true := by kernel_rfl
theorem fo74 : (Tryd.f74.name != "runtime.NumGoroutine" && Tryd.f74.body.isSome) = true := by kernel_rfl
theorem fo75 : (Tryd.f75.name != "runtime.NumGoroutine" && Tryd.f75.body.isSome) = true := by kernel_rfl
theorem fo76 : (Tryd.f76.name != "runtime.NumGoroutine" && Tryd.f76.body.isSome) = true := by kernel_rfl
theorem fo77 : (Tryd.f77.name != "runtime.NumGoroutine" && Tryd.f77.body.isSome) = true := by kernel_rfl
theorem fo78 : (Tryd.f78.name != "runtime.NumGoroutine" && Tryd.f78.body.isSome) = true := by kernel_rfl
theorem fo79 : (Tryd.f79.name != "runtime.NumGoroutine" && Tryd.f79.body.isSome) = true := by kernel_rfl
theorem fo80 : (Tryd.f80.name != "runtime.NumGoroutine" && Tryd.f80.body.isSome) = true := by kernel_rfl
theorem fo81 : (Tryd.f81.name != "runtime.NumGoroutine" && Tryd.f81.body.isSome) = true := by kernel_rfl
theorem fo82 : (Tryd.f82.name != "runtime.NumGoroutine" && Tryd.f82.body.isSome) = true := by kernel_rfl
theorem fo83 : (Tryd.f83.name != "runtime.NumGoroutine" && Tryd.f83.body.isSome) = true := by kernel_rfl
theorem fo84 : (Tryd.f84.name != "runtime.NumGoroutine" && Tryd.f84.body.isSome) = true := by kernel_rfl
theorem fo85 : (Tryd.f85.name != "runtime.NumGoroutine" && Tryd.f85.body.isSome) = true := by kernel_rfl
theorem fo86 : (Tryd.f86.name != "runtime.NumGoroutine" && Tryd.f86.body.isSome) = true := by kernel_rfl
theorem fo87 : (Tryd.f87.name != "runtime.NumGoroutine" && Tryd.f87.body.isSome) = true := by kernel_rfl
theorem fo88 : (Tryd.f88.name != "runtime.NumGoroutine" && Tryd.f88.body.isSome) = true := by kernel_rfl
theorem fo89 : (Tryd.f89.name != "runtime.NumGoroutine" && Tryd.f89.body.isSome) = true := by kernel_rfl
theorem fo90 : (Tryd.f90.name != "runtime.NumGoroutine" && Tryd.f90.body.isSome) = true := by kernel_rfl
theorem fo91 : (Tryd.f91.name != "runtime.NumGoroutine" && Tryd.f91.body.isSome) = true := by kernel_rfl
theorem fo92 : (Tryd.f92.name != "runtime.NumGoroutine" && Tryd.f92.body.isSome) = true := by kernel_rfl
theorem fo93 : (Tryd.f93.name != "runtime.NumGoroutine" && Tryd.f93.body.isSome) = true := by kernel_rfl
theorem fo94 : (Tryd.f94.name != "runtime.NumGoroutine" && Tryd.f94.body.isSome) = true := by kernel_rfl
theorem fo95 : (Tryd.f95.name != "runtime.NumGoroutine" && Tryd.f95.body.isSome) = true := by kernel_rfl
theorem fo96 : (Tryd.f96.name != "runtime.NumGoroutine" && Tryd.f96.body.isSome) = true := by kernel_rfl
theorem fo97 : (Tryd.f97.name != "runtime.NumGoroutine" && Tryd.f97.body.isSome) = true := by kernel_rfl
theorem fo98 : (Tryd.f98.name != "runtime.NumGoroutine" && Tryd.f98.body.isSome) = true := by kernel_rfl
theorem fo99 : (Tryd.f99.name != "runtime.NumGoroutine" && Tryd.f99.body.isSome) = true := by kernel_rfl
theorem fo100 : (Tryd.f100.name != "runtime.NumGoroutine" && Tryd.f100.body.isSome) = true := by kernel_rfl
theorem fo101 : (Tryd.f101.name != "runtime.NumGoroutine" && Tryd.f101.body.isSome) = true := by kernel_rfl
theorem fo102 : (Tryd.f102.name != "runtime.NumGoroutine" && Tryd.f102.body.isSome) = true := by kernel_rfl
theorem fo103 : (Tryd.f103.name != "runtime.NumGoroutine" && Tryd.f103.body.isSome) = true := by kernel_rfl
theorem fo104 : (Tryd.f104.name != "runtime.NumGoroutine" && Tryd.f104.body.isSome) = true := by kernel_rfl
theorem fo105 : (Tryd.f105.name != "runtime.NumGoroutine" && Tryd.f105.body.isSome) = true := by kernel_rfl
theorem fo106 : (Tryd.f106.name != "runtime.NumGoroutine" && Tryd.f106.body.isSome) = true := by kernel_rfl
theorem fo107 : (Tryd.f107.name != "runtime.NumGoroutine" && Tryd.f107.body.isSome) = true := by kernel_rfl
theorem fo108 : (Tryd.f108.name != "runtime.NumGoroutine" && Tryd.f108.body.isSome) = true := by kernel_rfl
theorem fo109 : (Tryd.f109.name != "runtime.NumGoroutine" && Tryd.f109.body.isSome) = true := by kernel_rfl
theorem fo110 : (Tryd.f110.name != "runtime.NumGoroutine" && Tryd.f110.body.isSome) = true := by kernel_rfl
theorem fo111 : (Tryd.f111.name != "runtime.NumGoroutine" && Tryd.f111.body.isSome) = true := by kernel_rfl
theorem fo112 : (Tryd.f112.name != "runtime.NumGoroutine" && Tryd.f112.body.isSome) = true := by kernel_rfl
theorem fo113 : (Tryd.f113.name != "runtime.NumGoroutine" && Tryd.f113.body.isSome) = true := by kernel_rfl
theorem fo114 : (Tryd.f114.name != "runtime.NumGoroutine" && Tryd.f114.body.isSome) = true := by kernel_rfl
theorem fo115 : (Tryd.f115.name != "runtime.NumGoroutine" && Tryd.f115.body.isSome) = true := by kernel_rfl
theorem fo116 : (Tryd.f116.name != "runtime.NumGoroutine" && Tryd.f116.body.isSome) = true := by kernel_rfl
theorem fo117 : (Tryd.f117.name != "runtime.NumGoroutine" && Tryd.f117.body.isSome) = true := by kernel_rfl
theorem fo118 : (Tryd.f118.name != "runtime.NumGoroutine" && Tryd.f118.body.isSome) = true := by kernel_rfl
theorem fo119 : (Tryd.f119.name != "runtime.NumGoroutine" && Tryd.f119.body.isSome) = true := by kernel_rfl
theorem fo120 : (Tryd.f120.name != "runtime.NumGoroutine" && Tryd.f120.body.isSome) = true := by kernel_rfl
theorem fo121 : (Tryd.f121.name != "runtime.NumGoroutine" && Tryd.f121.body.isSome) = true := by kernel_rfl
theorem fo122 : (Tryd.f122.name != "runtime.NumGoroutine" && Tryd.f122.body.isSome) = true := by kernel_rfl
theorem fo124 : (Tryd.f124.name != "runtime.NumGoroutine" && Tryd.f124.body.isSome) = true := by kernel_rfl
theorem fo125 : (Tryd.f125.name != "runtime.NumGoroutine" && Tryd.f125.body.isSome) = true := by kernel_rfl
theorem fo126 : (Tryd.f126.name != "runtime.NumGoroutine" && Tryd.f126.body.isSome) = true := by kernel_rfl
theorem fo127 : (Tryd.f127.name != "runtime.NumGoroutine" && Tryd.f127.body.isSome) = true := by kernel_rfl
theorem fo128 : (Tryd.f128.name != "runtime.NumGoroutine" && Tryd.f128.body.isSome) = true := by kernel_rfl
theorem fo130 : (Tryd.f130.name != "runtime.NumGoroutine" && Tryd.f130.body.isSome) = true := by kernel_rfl
theorem fo131 : (Tryd.f131.name != "runtime.NumGoroutine" && Tryd.f131.body.isSome) = true := by kernel_rfl
theorem fo153 : (Tryd.f153.name != "runtime.NumGoroutine" && Tryd.f153.body.isSome) = true := by kernel_rfl
theorem fq7_0 : fq Tryd.prog 7 0 = some (2, 0) := by kernel_rfl
theorem fq7_1 : fq Tryd.prog 7 1 = some (3, 1) := by kernel_rfl
theorem fq7_2 : fq Tryd.prog 7 2 = some (4, 2) := by kernel_rfl
theorem fq7_3 : fq Tryd.prog 7 3 = some (6, 3) := by kernel_rfl
theorem fq8_0 : fq Tryd.prog 8 0 = some (2, 0) := by kernel_rfl
theorem fq8_1 : fq Tryd.prog 8 1 = some (3, 1) := by kernel_rfl
theorem fq8_2 : fq Tryd.prog 8 2 = some (4, 2) := by kernel_rfl
theorem fq8_3 : fq Tryd.prog 8 3 = some (6, 3) := by kernel_rfl
theorem fq13_0 : fq Tryd.prog 13 0 = some (9, 0) := by kernel_rfl
theorem fq13_1 : fq Tryd.prog 13 1 = some (12, 1) := by kernel_rfl
theorem fq14_0 : fq Tryd.prog 14 0 = some (9, 0) := by kernel_rfl
theorem fq14_1 : fq Tryd.prog 14 1 = some (12, 1) := by kernel_rfl
theorem fq18_0 : fq Tryd.prog 18 0 = some (17, 0) := by kernel_rfl
theorem fq19_0 : fq Tryd.prog 19 0 = some (17, 0) := by kernel_rfl
theorem fq22_0 : fq Tryd.prog 22 0 = some (3, 0) := by kernel_rfl
theorem fq22_1 : fq Tryd.prog 22 1 = some (3, 1) := by kernel_rfl
theorem fq22_2 : fq Tryd.prog 22 2 = some (3, 2) := by kernel_rfl
theorem fq22_3 : fq Tryd.prog 22 3 = some (3, 3) := by kernel_rfl
theorem fq23_0 : fq Tryd.prog 23 0 = some (3, 0) := by kernel_rfl
theorem fq23_1 : fq Tryd.prog 23 1 = some (3, 1) := by kernel_rfl
theorem fq23_2 : fq Tryd.prog 23 2 = some (3, 2) := by kernel_rfl
theorem fq23_3 : fq Tryd.prog 23 3 = some (3, 3) := by kernel_rfl
theorem fq35_0 : fq Tryd.prog 35 0 = some (3, 0) := by kernel_rfl
theorem fq35_1 : fq Tryd.prog 35 1 = some (3, 1) := by kernel_rfl
theorem fq35_2 : fq Tryd.prog 35 2 = some (3, 2) := by kernel_rfl
theorem fq36_0 : fq Tryd.prog 36 0 = some (3, 0) := by kernel_rfl
theorem fq36_1 : fq Tryd.prog 36 1 = some (3, 1) := by kernel_rfl
theorem fq36_2 : fq Tryd.prog 36 2 = some (3, 2) := by kernel_rfl
theorem fq46_0 : fq Tryd.prog 46 0 = some (3, 0) := by kernel_rfl
theorem fq46_1 : fq Tryd.prog 46 1 = some (44, 1) := by kernel_rfl
theorem fq46_2 : fq Tryd.prog 46 2 = some (43, 5) := by kernel_rfl
theorem fq46_3 : fq Tryd.prog 46 3 = some (45, 6) := by kernel_rfl
theorem fq46_4 : fq Tryd.prog 46 4 = some (44, 10) := by kernel_rfl
theorem fq47_0 : fq Tryd.prog 47 0 = some (3, 0) := by kernel_rfl
theorem fq47_1 : fq Tryd.prog 47 1 = some (44, 1) := by kernel_rfl
theorem fq47_2 : fq Tryd.prog 47 2 = some (43, 5) := by kernel_rfl
theorem fq47_3 : fq Tryd.prog 47 3 = some (45, 6) := by kernel_rfl
theorem fq47_4 : fq Tryd.prog 47 4 = some (44, 10) := by kernel_rfl
theorem fq72_0 : fq Tryd.prog 72 0 = some (3, 0) := by kernel_rfl
theorem fq72_1 : fq Tryd.prog 72 1 = some (3, 1) := by kernel_rfl
theorem fq72_2 : fq Tryd.prog 72 2 = some (3, 2) := by kernel_rfl
theorem fq73_0 : fq Tryd.prog 73 0 = some (3, 0) := by kernel_rfl
theorem fq73_1 : fq Tryd.prog 73 1 = some (3, 1) := by kernel_rfl
theorem fq73_2 : fq Tryd.prog 73 2 = some (3, 2) := by kernel_rfl
theorem fq77_0 : fq Tryd.prog 77 0 = some (76, 0) := by kernel_rfl
theorem fq77_1 : fq Tryd.prog 77 1 = some (3, 1) := by kernel_rfl
theorem fq78_0 : fq Tryd.prog 78 0 = some (76, 0) := by kernel_rfl
theorem fq78_1 : fq Tryd.prog 78 1 = some (3, 1) := by kernel_rfl
theorem fq151_0 : fq Tryd.prog 151 0 = some (147, 0) := by kernel_rfl
theorem fq152_0 : fq Tryd.prog 152 0 = some (147, 0) := by kernel_rfl
theorem fq155_0 : fq Tryd.prog 155 0 = some (17, 0) := by kernel_rfl
theorem fq155_1 : fq Tryd.prog 155 1 = some (17, 1) := by kernel_rfl
theorem fq155_2 : fq Tryd.prog 155 2 = some (17, 2) := by kernel_rfl
theorem fq155_3 : fq Tryd.prog 155 3 = some (9, 3) := by kernel_rfl
theorem fq156_0 : fq Tryd.prog 156 0 = some (17, 0) := by kernel_rfl
theorem fq156_1 : fq Tryd.prog 156 1 = some (17, 1) := by kernel_rfl
theorem fq156_2 : fq Tryd.prog 156 2 = some (17, 2) := by kernel_rfl
theorem fq156_3 : fq Tryd.prog 156 3 = some (9, 3) := by kernel_rfl
theorem fq158_0 : fq Tryd.prog 158 0 = some (157, 0) := by kernel_rfl
theorem fq159_0 : fq Tryd.prog 159 0 = some (157, 0) := by kernel_rfl
theorem fq166_0 : fq Tryd.prog 166 0 = some (12, 0) := by kernel_rfl
theorem fq166_1 : fq Tryd.prog 166 1 = some (12, 1) := by kernel_rfl
theorem fq166_2 : fq Tryd.prog 166 2 = some (125, 2) := by kernel_rfl
theorem fq166_3 : fq Tryd.prog 166 3 = some (160, 3) := by kernel_rfl
theorem fq166_4 : fq Tryd.prog 166 4 = some (5, 4) := by kernel_rfl
theorem fq166_5 : fq Tryd.prog 166 5 = some (5, 5) := by kernel_rfl
theorem fq166_6 : fq Tryd.prog 166 6 = some (161, 6) := by kernel_rfl
theorem fq166_7 : fq Tryd.prog 166 7 = some (162, 7) := by kernel_rfl
theorem fq166_8 : fq Tryd.prog 166 8 = some (163, 8) := by kernel_rfl
theorem fq166_9 : fq Tryd.prog 166 9 = some (164, 9) := by kernel_rfl
theorem fq166_10 : fq Tryd.prog 166 10 = some (165, 10) := by kernel_rfl
theorem fq167_0 : fq Tryd.prog 167 0 = some (12, 0) := by kernel_rfl
theorem fq167_1 : fq Tryd.prog 167 1 = some (12, 1) := by kernel_rfl
theorem fq167_2 : fq Tryd.prog 167 2 = some (125, 2) := by kernel_rfl
theorem fq167_3 : fq Tryd.prog 167 3 = some (160, 3) := by kernel_rfl
theorem fq167_4 : fq Tryd.prog 167 4 = some (5, 4) := by kernel_rfl
theorem fq167_5 : fq Tryd.prog 167 5 = some (5, 5) := by kernel_rfl
theorem fq167_6 : fq Tryd.prog 167 6 = some (161, 6) := by kernel_rfl
theorem fq167_7 : fq Tryd.prog 167 7 = some (162, 7) := by kernel_rfl
theorem fq167_8 : fq Tryd.prog 167 8 = some (163, 8) := by kernel_rfl
theorem fq167_9 : fq Tryd.prog 167 9 = some (164, 9) := by kernel_rfl
theorem fq167_10 : fq Tryd.prog 167 10 = some (165, 10) := by kernel_rfl
theorem ty0 : tq Tryd.prog 0 = some (false, 1, 0) := by kernel_rfl
theorem ty1 : tq Tryd.prog 1 = some (false, 1, 8) := by kernel_rfl
theorem ty2 : tq Tryd.prog 2 = some (false, 1, 8) := by kernel_rfl
theorem ty3 : tq Tryd.prog 3 = some (false, 1, 8) := by kernel_rfl
theorem ty4 : tq Tryd.prog 4 = some (false, 1, 1) := by kernel_rfl
theorem ty5 : tq Tryd.prog 5 = some (false, 1, 1) := by kernel_rfl
theorem ty6 : tq Tryd.prog 6 = some (false, 1, 1) := by kernel_rfl
theorem ty7 : tq Tryd.prog 7 = some (true, 4, 24) := by kernel_rfl
theorem ty8 : tq Tryd.prog 8 = some (true, 4, 24) := by kernel_rfl
theorem ty9 : tq Tryd.prog 9 = some (false, 1, 16) := by kernel_rfl
theorem ty10 : tq Tryd.prog 10 = some (false, 1, 16) := by kernel_rfl
theorem ty11 : tq Tryd.prog 11 = some (false, 1, 16) := by kernel_rfl
theorem ty12 : tq Tryd.prog 12 = some (false, 1, 8) := by kernel_rfl
theorem ty13 : tq Tryd.prog 13 = some (true, 2, 24) := by kernel_rfl
theorem ty14 : tq Tryd.prog 14 = some (true, 2, 24) := by kernel_rfl
theorem ty15 : tq Tryd.prog 15 = some (false, 1, 8) := by kernel_rfl
theorem ty16 : tq Tryd.prog 16 = some (false, 1, 8) := by kernel_rfl
theorem ty17 : tq Tryd.prog 17 = some (false, 1, 8) := by kernel_rfl
theorem ty18 : tq Tryd.prog 18 = some (true, 1, 8) := by kernel_rfl
theorem ty19 : tq Tryd.prog 19 = some (true, 1, 8) := by kernel_rfl
theorem ty20 : tq Tryd.prog 20 = some (false, 1, 16) := by kernel_rfl
theorem ty21 : tq Tryd.prog 21 = some (false, 1, 4) := by kernel_rfl
theorem ty22 : tq Tryd.prog 22 = some (true, 4, 32) := by kernel_rfl
theorem ty23 : tq Tryd.prog 23 = some (true, 4, 32) := by kernel_rfl
theorem ty24 : tq Tryd.prog 24 = some (false, 1, 8) := by kernel_rfl
theorem ty25 : tq Tryd.prog 25 = some (false, 1, 8) := by kernel_rfl
theorem ty26 : tq Tryd.prog 26 = some (false, 1, 24) := by kernel_rfl
theorem ty27 : tq Tryd.prog 27 = some (false, 1, 8) := by kernel_rfl
theorem ty28 : tq Tryd.prog 28 = some (false, 1, 0) := by kernel_rfl
theorem ty29 : tq Tryd.prog 29 = some (false, 1, 8) := by kernel_rfl
theorem ty30 : tq Tryd.prog 30 = some (false, 1, 8) := by kernel_rfl
theorem ty31 : tq Tryd.prog 31 = some (false, 1, 8) := by kernel_rfl
theorem ty32 : tq Tryd.prog 32 = some (false, 1, 8) := by kernel_rfl
theorem ty33 : tq Tryd.prog 33 = some (false, 1, 8) := by kernel_rfl
theorem ty34 : tq Tryd.prog 34 = some (false, 1, 8) := by kernel_rfl
theorem ty35 : tq Tryd.prog 35 = some (true, 3, 24) := by kernel_rfl
theorem ty36 : tq Tryd.prog 36 = some (true, 3, 24) := by kernel_rfl
theorem ty37 : tq Tryd.prog 37 = some (false, 1, 8) := by kernel_rfl
theorem ty38 : tq Tryd.prog 38 = some (false, 1, 8) := by kernel_rfl
theorem ty39 : tq Tryd.prog 39 = some (false, 1, 8) := by kernel_rfl
theorem ty40 : tq Tryd.prog 40 = some (false, 1, 8) := by kernel_rfl
theorem ty41 : tq Tryd.prog 41 = some (false, 1, 8) := by kernel_rfl
theorem ty42 : tq Tryd.prog 42 = some (false, 1, 24) := by kernel_rfl
theorem ty43 : tq Tryd.prog 43 = some (false, 1, 8) := by kernel_rfl
theorem ty44 : tq Tryd.prog 44 = some (true, 4, 32) := by kernel_rfl
theorem ty45 : tq Tryd.prog 45 = some (true, 4, 32) := by kernel_rfl
theorem ty46 : tq Tryd.prog 46 = some (true, 14, 112) := by kernel_rfl
theorem ty47 : tq Tryd.prog 47 = some (true, 14, 112) := by kernel_rfl
theorem ty48 : tq Tryd.prog 48 = some (false, 1, 0) := by kernel_rfl
theorem ty49 : tq Tryd.prog 49 = some (false, 1, 8) := by kernel_rfl
theorem ty50 : tq Tryd.prog 50 = some (false, 1, 24) := by kernel_rfl
theorem ty51 : tq Tryd.prog 51 = some (false, 1, 0) := by kernel_rfl
theorem ty52 : tq Tryd.prog 52 = some (false, 1, 8) := by kernel_rfl
theorem ty53 : tq Tryd.prog 53 = some (false, 1, 24) := by kernel_rfl
theorem ty54 : tq Tryd.prog 54 = some (false, 1, 0) := by kernel_rfl
theorem ty55 : tq Tryd.prog 55 = some (false, 1, 8) := by kernel_rfl
theorem ty56 : tq Tryd.prog 56 = some (false, 1, 0) := by kernel_rfl
theorem ty57 : tq Tryd.prog 57 = some (false, 1, 8) := by kernel_rfl
theorem ty58 : tq Tryd.prog 58 = some (false, 1, 8) := by kernel_rfl
theorem ty59 : tq Tryd.prog 59 = some (false, 1, 8) := by kernel_rfl
theorem ty60 : tq Tryd.prog 60 = some (false, 1, 0) := by kernel_rfl
theorem ty61 : tq Tryd.prog 61 = some (false, 1, 8) := by kernel_rfl
theorem ty62 : tq Tryd.prog 62 = some (false, 1, 8) := by kernel_rfl
theorem ty63 : tq Tryd.prog 63 = some (false, 1, 8) := by kernel_rfl
theorem ty64 : tq Tryd.prog 64 = some (false, 1, 8) := by kernel_rfl
theorem ty65 : tq Tryd.prog 65 = some (false, 1, 0) := by kernel_rfl
theorem ty66 : tq Tryd.prog 66 = some (false, 1, 8) := by kernel_rfl
theorem ty67 : tq Tryd.prog 67 = some (false, 1, 8) := by kernel_rfl
theorem ty68 : tq Tryd.prog 68 = some (false, 1, 8) := by kernel_rfl
theorem ty69 : tq Tryd.prog 69 = some (false, 1, 8) := by kernel_rfl
theorem ty70 : tq Tryd.prog 70 = some (false, 1, 8) := by kernel_rfl
theorem ty71 : tq Tryd.prog 71 = some (false, 1, 8) := by kernel_rfl
theorem ty72 : tq Tryd.prog 72 = some (true, 3, 24) := by kernel_rfl
theorem ty73 : tq Tryd.prog 73 = some (true, 3, 24) := by kernel_rfl
theorem ty74 : tq Tryd.prog 74 = some (false, 1, 8) := by kernel_rfl
theorem ty75 : tq Tryd.prog 75 = some (false, 1, 8) := by kernel_rfl
theorem ty76 : tq Tryd.prog 76 = some (false, 1, 24) := by kernel_rfl
theorem ty77 : tq Tryd.prog 77 = some (true, 2, 32) := by kernel_rfl
theorem ty78 : tq Tryd.prog 78 = some (true, 2, 32) := by kernel_rfl
theorem ty79 : tq Tryd.prog 79 = some (false, 1, 8) := by kernel_rfl
theorem ty80 : tq Tryd.prog 80 = some (false, 1, 8) := by kernel_rfl
theorem ty81 : tq Tryd.prog 81 = some (false, 1, 0) := by kernel_rfl
theorem ty82 : tq Tryd.prog 82 = some (false, 1, 8) := by kernel_rfl
theorem ty83 : tq Tryd.prog 83 = some (false, 1, 8) := by kernel_rfl
theorem ty84 : tq Tryd.prog 84 = some (false, 1, 8) := by kernel_rfl
theorem ty85 : tq Tryd.prog 85 = some (false, 1, 8) := by kernel_rfl
theorem ty86 : tq Tryd.prog 86 = some (false, 1, 8) := by kernel_rfl
theorem ty87 : tq Tryd.prog 87 = some (false, 1, 8) := by kernel_rfl
theorem ty88 : tq Tryd.prog 88 = some (false, 1, 8) := by kernel_rfl
theorem ty89 : tq Tryd.prog 89 = some (false, 1, 8) := by kernel_rfl
theorem ty90 : tq Tryd.prog 90 = some (false, 1, 8) := by kernel_rfl
theorem ty91 : tq Tryd.prog 91 = some (false, 1, 0) := by kernel_rfl
theorem ty92 : tq Tryd.prog 92 = some (false, 1, 8) := by kernel_rfl
theorem ty93 : tq Tryd.prog 93 = some (false, 1, 8) := by kernel_rfl
theorem ty94 : tq Tryd.prog 94 = some (false, 1, 8) := by kernel_rfl
theorem ty95 : tq Tryd.prog 95 = some (false, 1, 8) := by kernel_rfl
theorem ty96 : tq Tryd.prog 96 = some (false, 1, 0) := by kernel_rfl
theorem ty97 : tq Tryd.prog 97 = some (false, 1, 8) := by kernel_rfl
theorem ty98 : tq Tryd.prog 98 = some (false, 1, 8) := by kernel_rfl
theorem ty99 : tq Tryd.prog 99 = some (false, 1, 8) := by kernel_rfl
theorem ty100 : tq Tryd.prog 100 = some (false, 1, 8) := by kernel_rfl
theorem ty101 : tq Tryd.prog 101 = some (false, 1, 8) := by kernel_rfl
theorem ty102 : tq Tryd.prog 102 = some (false, 1, 8) := by kernel_rfl
theorem ty103 : tq Tryd.prog 103 = some (false, 1, 8) := by kernel_rfl
theorem ty104 : tq Tryd.prog 104 = some (false, 1, 8) := by kernel_rfl
theorem ty105 : tq Tryd.prog 105 = some (false, 1, 8) := by kernel_rfl
theorem ty106 : tq Tryd.prog 106 = some (false, 1, 8) := by kernel_rfl
theorem ty107 : tq Tryd.prog 107 = some (false, 1, 8) := by kernel_rfl
theorem ty108 : tq Tryd.prog 108 = some (false, 1, 8) := by kernel_rfl
theorem ty109 : tq Tryd.prog 109 = some (false, 1, 8) := by kernel_rfl
theorem ty110 : tq Tryd.prog 110 = some (false, 1, 8) := by kernel_rfl
theorem ty111 : tq Tryd.prog 111 = some (false, 1, 8) := by kernel_rfl
theorem ty112 : tq Tryd.prog 112 = some (true, 192, 1536) := by kernel_rfl
theorem ty113 : tq Tryd.prog 113 = some (false, 1, 8) := by kernel_rfl
theorem ty114 : tq Tryd.prog 114 = some (true, 28, 224) := by kernel_rfl
theorem ty115 : tq Tryd.prog 115 = some (false, 1, 8) := by kernel_rfl
theorem ty116 : tq Tryd.prog 116 = some (false, 1, 8) := by kernel_rfl
theorem ty117 : tq Tryd.prog 117 = some (false, 1, 8) := by kernel_rfl
theorem ty118 : tq Tryd.prog 118 = some (false, 1, 8) := by kernel_rfl
theorem ty119 : tq Tryd.prog 119 = some (false, 1, 8) := by kernel_rfl
theorem ty120 : tq Tryd.prog 120 = some (true, 32, 32) := by kernel_rfl
theorem ty121 : tq Tryd.prog 121 = some (false, 1, 8) := by kernel_rfl
theorem ty122 : tq Tryd.prog 122 = some (false, 1, 8) := by kernel_rfl
theorem ty123 : tq Tryd.prog 123 = some (false, 1, 8) := by kernel_rfl
theorem ty124 : tq Tryd.prog 124 = some (false, 1, 8) := by kernel_rfl
theorem ty125 : tq Tryd.prog 125 = some (false, 1, 4) := by kernel_rfl
theorem ty126 : tq Tryd.prog 126 = some (false, 1, 0) := by kernel_rfl
theorem ty127 : tq Tryd.prog 127 = some (false, 1, 8) := by kernel_rfl
theorem ty128 : tq Tryd.prog 128 = some (false, 1, 0) := by kernel_rfl
theorem ty129 : tq Tryd.prog 129 = some (false, 1, 8) := by kernel_rfl
theorem ty130 : tq Tryd.prog 130 = some (false, 1, 8) := by kernel_rfl
theorem ty131 : tq Tryd.prog 131 = some (false, 1, 8) := by kernel_rfl
theorem ty132 : tq Tryd.prog 132 = some (false, 1, 24) := by kernel_rfl
theorem ty133 : tq Tryd.prog 133 = some (false, 1, 8) := by kernel_rfl
theorem ty134 : tq Tryd.prog 134 = some (false, 1, 8) := by kernel_rfl
theorem ty135 : tq Tryd.prog 135 = some (false, 1, 8) := by kernel_rfl
theorem ty136 : tq Tryd.prog 136 = some (false, 1, 8) := by kernel_rfl
theorem ty137 : tq Tryd.prog 137 = some (false, 1, 8) := by kernel_rfl
theorem ty138 : tq Tryd.prog 138 = some (false, 1, 24) := by kernel_rfl
theorem ty139 : tq Tryd.prog 139 = some (false, 1, 8) := by kernel_rfl
theorem ty140 : tq Tryd.prog 140 = some (false, 1, 8) := by kernel_rfl
theorem ty141 : tq Tryd.prog 141 = some (false, 1, 8) := by kernel_rfl
theorem ty142 : tq Tryd.prog 142 = some (false, 1, 0) := by kernel_rfl
theorem ty143 : tq Tryd.prog 143 = some (false, 1, 8) := by kernel_rfl
theorem ty144 : tq Tryd.prog 144 = some (false, 1, 8) := by kernel_rfl
theorem ty145 : tq Tryd.prog 145 = some (true, 6, 48) := by kernel_rfl
theorem ty146 : tq Tryd.prog 146 = some (false, 1, 8) := by kernel_rfl
theorem ty147 : tq Tryd.prog 147 = some (false, 1, 8) := by kernel_rfl
theorem ty148 : tq Tryd.prog 148 = some (false, 1, 8) := by kernel_rfl
theorem ty149 : tq Tryd.prog 149 = some (false, 1, 8) := by kernel_rfl
theorem ty150 : tq Tryd.prog 150 = some (false, 1, 8) := by kernel_rfl
theorem ty151 : tq Tryd.prog 151 = some (true, 1, 8) := by kernel_rfl
theorem ty152 : tq Tryd.prog 152 = some (true, 1, 8) := by kernel_rfl
theorem ty153 : tq Tryd.prog 153 = some (false, 1, 8) := by kernel_rfl
theorem ty154 : tq Tryd.prog 154 = some (false, 1, 8) := by kernel_rfl
theorem ty155 : tq Tryd.prog 155 = some (true, 4, 40) := by kernel_rfl
theorem ty156 : tq Tryd.prog 156 = some (true, 4, 40) := by kernel_rfl
theorem ty157 : tq Tryd.prog 157 = some (true, 0, 0) := by kernel_rfl
theorem ty158 : tq Tryd.prog 158 = some (true, 0, 0) := by kernel_rfl
theorem ty159 : tq Tryd.prog 159 = some (true, 0, 0) := by kernel_rfl
theorem ty160 : tq Tryd.prog 160 = some (false, 1, 1) := by kernel_rfl
theorem ty161 : tq Tryd.prog 161 = some (false, 1, 1) := by kernel_rfl
theorem ty162 : tq Tryd.prog 162 = some (false, 1, 8) := by kernel_rfl
theorem ty163 : tq Tryd.prog 163 = some (false, 1, 8) := by kernel_rfl
theorem ty164 : tq Tryd.prog 164 = some (false, 1, 4) := by kernel_rfl
theorem ty165 : tq Tryd.prog 165 = some (false, 1, 4) := by kernel_rfl
theorem ty166 : tq Tryd.prog 166 = some (true, 11, 48) := by kernel_rfl
theorem ty167 : tq Tryd.prog 167 = some (true, 11, 48) := by kernel_rfl
theorem ty168 : tq Tryd.prog 168 = some (false, 1, 8) := by kernel_rfl
theorem ty169 : tq Tryd.prog 169 = some (false, 1, 8) := by kernel_rfl
theorem zr0 : zq Tryd.prog 0 = some (.tuple #[]) := by kernel_rfl
theorem zr1 : zq Tryd.prog 1 = some (.nilFunc) := by kernel_rfl
theorem zr2 : zq Tryd.prog 2 = some (.int .i64 0) := by kernel_rfl
theorem zr3 : zq Tryd.prog 3 = some (.int .i64 0) := by kernel_rfl
theorem zr4 : zq Tryd.prog 4 = some (.bool false) := by kernel_rfl
theorem zr5 : zq Tryd.prog 5 = some (.int .u8 0) := by kernel_rfl
theorem zr6 : zq Tryd.prog 6 = some (.int .u8 0) := by kernel_rfl
theorem zr7 : zq Tryd.prog 7 = some (.agg #[.int .i64 0, .int .i64 0, .bool false, .int .u8 0]) := by kernel_rfl
theorem zr8 : zq Tryd.prog 8 = some (.agg #[.int .i64 0, .int .i64 0, .bool false, .int .u8 0]) := by kernel_rfl
theorem zr9 : zq Tryd.prog 9 = some (.string ⟨#[]⟩) := by kernel_rfl
theorem zr10 : zq Tryd.prog 10 = some (.string ⟨#[]⟩) := by kernel_rfl
theorem zr11 : zq Tryd.prog 11 = some (.string ⟨#[]⟩) := by kernel_rfl
theorem zr12 : zq Tryd.prog 12 = some (.int .u64 0) := by kernel_rfl
theorem zr13 : zq Tryd.prog 13 = some (.agg #[.string ⟨#[]⟩, .int .u64 0]) := by kernel_rfl
theorem zr14 : zq Tryd.prog 14 = some (.agg #[.string ⟨#[]⟩, .int .u64 0]) := by kernel_rfl
theorem zr15 : zq Tryd.prog 15 = some (.pointer none) := by kernel_rfl
theorem zr16 : zq Tryd.prog 16 = some (.pointer none) := by kernel_rfl
theorem zr17 : zq Tryd.prog 17 = some (.pointer none) := by kernel_rfl
theorem zr18 : zq Tryd.prog 18 = some (.agg #[.pointer none]) := by kernel_rfl
theorem zr19 : zq Tryd.prog 19 = some (.agg #[.pointer none]) := by kernel_rfl
theorem zr20 : zq Tryd.prog 20 = some (.nilIface) := by kernel_rfl
theorem zr21 : zq Tryd.prog 21 = some (.int .i32 0) := by kernel_rfl
theorem zr22 : zq Tryd.prog 22 = some (.agg #[.int .i64 0, .int .i64 0, .int .i64 0, .int .i64 0]) := by kernel_rfl
theorem zr23 : zq Tryd.prog 23 = some (.agg #[.int .i64 0, .int .i64 0, .int .i64 0, .int .i64 0]) := by kernel_rfl
theorem zr24 : zq Tryd.prog 24 = some (.nilFunc) := by kernel_rfl
theorem zr25 : zq Tryd.prog 25 = some (.nilFunc) := by kernel_rfl
theorem zr26 : zq Tryd.prog 26 = some (.slice none 0 0) := by kernel_rfl
theorem zr27 : zq Tryd.prog 27 = some (.int .i64 0) := by kernel_rfl
theorem zr28 : zq Tryd.prog 28 = some (.tuple #[.slice none 0 0, .int .i64 0]) := by kernel_rfl
theorem zr29 : zq Tryd.prog 29 = some (.nilFunc) := by kernel_rfl
theorem zr30 : zq Tryd.prog 30 = some (.nilFunc) := by kernel_rfl
theorem zr31 : zq Tryd.prog 31 = some (.nilFunc) := by kernel_rfl
theorem zr32 : zq Tryd.prog 32 = some (.nilFunc) := by kernel_rfl
theorem zr33 : zq Tryd.prog 33 = some (.pointer none) := by kernel_rfl
theorem zr34 : zq Tryd.prog 34 = some (.nilFunc) := by kernel_rfl
theorem zr35 : zq Tryd.prog 35 = some (.agg #[.int .i64 0, .int .i64 0, .int .i64 0]) := by kernel_rfl
theorem zr36 : zq Tryd.prog 36 = some (.agg #[.int .i64 0, .int .i64 0, .int .i64 0]) := by kernel_rfl
theorem zr37 : zq Tryd.prog 37 = some (.nilFunc) := by kernel_rfl
theorem zr38 : zq Tryd.prog 38 = some (.nilFunc) := by kernel_rfl
theorem zr39 : zq Tryd.prog 39 = some (.nilFunc) := by kernel_rfl
theorem zr40 : zq Tryd.prog 40 = some (.nilFunc) := by kernel_rfl
theorem zr41 : zq Tryd.prog 41 = some (.nilFunc) := by kernel_rfl
theorem zr42 : zq Tryd.prog 42 = some (.slice none 0 0) := by kernel_rfl
theorem zr43 : zq Tryd.prog 43 = some (.int .u64 0) := by kernel_rfl
theorem zr44 : zq Tryd.prog 44 = some (.agg #[.int .u64 0, .int .u64 0, .int .u64 0, .int .u64 0]) := by kernel_rfl
theorem zr45 : zq Tryd.prog 45 = some (.agg #[.int .u64 0, .int .u64 0, .int .u64 0, .int .u64 0]) := by kernel_rfl
theorem zr46 : zq Tryd.prog 46 = some (.agg #[.int .i64 0, .int .u64 0, .int .u64 0, .int .u64 0, .int .u64 0, .int .u64 0, .int .u64 0, .int .u64 0, .int .u64 0, .int .u64 0, .int .u64 0, .int .u64 0, .int .u64 0, .int .u64 0]) := by kernel_rfl
theorem zr47 : zq Tryd.prog 47 = some (.agg #[.int .i64 0, .int .u64 0, .int .u64 0, .int .u64 0, .int .u64 0, .int .u64 0, .int .u64 0, .int .u64 0, .int .u64 0, .int .u64 0, .int .u64 0, .int .u64 0, .int .u64 0, .int .u64 0]) := by kernel_rfl
theorem zr48 : zq Tryd.prog 48 = some (.tuple #[.agg #[.int .i64 0, .int .u64 0, .int .u64 0, .int .u64 0, .int .u64 0, .int .u64 0, .int .u64 0, .int .u64 0, .int .u64 0, .int .u64 0, .int .u64 0, .int .u64 0, .int .u64 0, .int .u64 0], .agg #[.int .u64 0, .int .u64 0, .int .u64 0, .int .u64 0]]) := by kernel_rfl
theorem zr49 : zq Tryd.prog 49 = some (.nilFunc) := by kernel_rfl
theorem zr50 : zq Tryd.prog 50 = some (.slice none 0 0) := by kernel_rfl
theorem zr51 : zq Tryd.prog 51 = some (.tuple #[.slice none 0 0, .slice none 0 0]) := by kernel_rfl
theorem zr52 : zq Tryd.prog 52 = some (.nilFunc) := by kernel_rfl
theorem zr53 : zq Tryd.prog 53 = some (.slice none 0 0) := by kernel_rfl
theorem zr54 : zq Tryd.prog 54 = some (.tuple #[.slice none 0 0, .int .i64 0]) := by kernel_rfl
theorem zr55 : zq Tryd.prog 55 = some (.nilFunc) := by kernel_rfl
theorem zr56 : zq Tryd.prog 56 = some (.tuple #[.slice none 0 0, .int .i64 0]) := by kernel_rfl
theorem zr57 : zq Tryd.prog 57 = some (.nilFunc) := by kernel_rfl
theorem zr58 : zq Tryd.prog 58 = some (.nilFunc) := by kernel_rfl
theorem zr59 : zq Tryd.prog 59 = some (.nilFunc) := by kernel_rfl
theorem zr60 : zq Tryd.prog 60 = some (.tuple #[.slice none 0 0, .int .i64 0]) := by kernel_rfl
theorem zr61 : zq Tryd.prog 61 = some (.nilFunc) := by kernel_rfl
theorem zr62 : zq Tryd.prog 62 = some (.nilFunc) := by kernel_rfl
theorem zr63 : zq Tryd.prog 63 = some (.nilFunc) := by kernel_rfl
theorem zr64 : zq Tryd.prog 64 = some (.nilFunc) := by kernel_rfl
theorem zr65 : zq Tryd.prog 65 = some (.tuple #[.slice none 0 0, .int .i64 0]) := by kernel_rfl
theorem zr66 : zq Tryd.prog 66 = some (.nilFunc) := by kernel_rfl
theorem zr67 : zq Tryd.prog 67 = some (.nilFunc) := by kernel_rfl
theorem zr68 : zq Tryd.prog 68 = some (.nilFunc) := by kernel_rfl
theorem zr69 : zq Tryd.prog 69 = some (.nilFunc) := by kernel_rfl
theorem zr70 : zq Tryd.prog 70 = some (.nilFunc) := by kernel_rfl
theorem zr71 : zq Tryd.prog 71 = some (.nilFunc) := by kernel_rfl
theorem zr72 : zq Tryd.prog 72 = some (.agg #[.int .i64 0, .int .i64 0, .int .i64 0]) := by kernel_rfl
theorem zr73 : zq Tryd.prog 73 = some (.agg #[.int .i64 0, .int .i64 0, .int .i64 0]) := by kernel_rfl
theorem zr74 : zq Tryd.prog 74 = some (.nilFunc) := by kernel_rfl
theorem zr75 : zq Tryd.prog 75 = some (.nilFunc) := by kernel_rfl
theorem zr76 : zq Tryd.prog 76 = some (.slice none 0 0) := by kernel_rfl
theorem zr77 : zq Tryd.prog 77 = some (.agg #[.slice none 0 0, .int .i64 0]) := by kernel_rfl
theorem zr78 : zq Tryd.prog 78 = some (.agg #[.slice none 0 0, .int .i64 0]) := by kernel_rfl
theorem zr79 : zq Tryd.prog 79 = some (.nilFunc) := by kernel_rfl
theorem zr80 : zq Tryd.prog 80 = some (.nilFunc) := by kernel_rfl
theorem zr81 : zq Tryd.prog 81 = some (.tuple #[.agg #[.int .i64 0, .int .u64 0, .int .u64 0, .int .u64 0, .int .u64 0, .int .u64 0, .int .u64 0, .int .u64 0, .int .u64 0, .int .u64 0, .int .u64 0, .int .u64 0, .int .u64 0, .int .u64 0], .int .i64 0]) := by kernel_rfl
theorem zr82 : zq Tryd.prog 82 = some (.nilFunc) := by kernel_rfl
theorem zr83 : zq Tryd.prog 83 = some (.nilFunc) := by kernel_rfl
theorem zr84 : zq Tryd.prog 84 = some (.nilFunc) := by kernel_rfl
theorem zr85 : zq Tryd.prog 85 = some (.nilFunc) := by kernel_rfl
theorem zr86 : zq Tryd.prog 86 = some (.nilFunc) := by kernel_rfl
theorem zr87 : zq Tryd.prog 87 = some (.nilFunc) := by kernel_rfl
theorem zr88 : zq Tryd.prog 88 = some (.nilFunc) := by kernel_rfl
theorem zr89 : zq Tryd.prog 89 = some (.nilFunc) := by kernel_rfl
theorem zr90 : zq Tryd.prog 90 = some (.nilFunc) := by kernel_rfl
theorem zr91 : zq Tryd.prog 91 = some (.tuple #[.agg #[.int .u64 0, .int .u64 0, .int .u64 0, .int .u64 0], .int .i64 0]) := by kernel_rfl
theorem zr92 : zq Tryd.prog 92 = some (.nilFunc) := by kernel_rfl
theorem zr93 : zq Tryd.prog 93 = some (.nilFunc) := by kernel_rfl
theorem zr94 : zq Tryd.prog 94 = some (.nilFunc) := by kernel_rfl
theorem zr95 : zq Tryd.prog 95 = some (.int .u64 0) := by kernel_rfl
theorem zr96 : zq Tryd.prog 96 = some (.tuple #[.int .u64 0, .int .u64 0]) := by kernel_rfl
theorem zr97 : zq Tryd.prog 97 = some (.nilFunc) := by kernel_rfl
theorem zr98 : zq Tryd.prog 98 = some (.nilFunc) := by kernel_rfl
theorem zr99 : zq Tryd.prog 99 = some (.nilFunc) := by kernel_rfl
theorem zr100 : zq Tryd.prog 100 = some (.nilFunc) := by kernel_rfl
theorem zr101 : zq Tryd.prog 101 = some (.nilFunc) := by kernel_rfl
theorem zr102 : zq Tryd.prog 102 = some (.nilFunc) := by kernel_rfl
theorem zr103 : zq Tryd.prog 103 = some (.nilFunc) := by kernel_rfl
theorem zr104 : zq Tryd.prog 104 = some (.nilFunc) := by kernel_rfl
theorem zr105 : zq Tryd.prog 105 = some (.nilFunc) := by kernel_rfl
theorem zr106 : zq Tryd.prog 106 = some (.nilFunc) := by kernel_rfl
theorem zr107 : zq Tryd.prog 107 = some (.nilFunc) := by kernel_rfl
theorem zr108 : zq Tryd.prog 108 = some (.nilFunc) := by kernel_rfl
theorem zr109 : zq Tryd.prog 109 = some (.nilFunc) := by kernel_rfl
theorem zr110 : zq Tryd.prog 110 = some (.nilFunc) := by kernel_rfl
theorem zr111 : zq Tryd.prog 111 = some (.pointer none) := by kernel_rfl
theorem zr112 : zq Tryd.prog 112 = some (.agg #[.int .i64 0, .int .i64 0, .int .i64 0, .int .i64 0, .int .i64 0, .int .i64 0, .int .i64 0, .int .i64 0, .int .i64 0, .int .i64 0, .int .i64 0, .int .i64 0, .int .i64 0, .int .i64 0, .int .i64 0, .int .i64 0, .int .i64 0, .int .i64 0, .int .i64 0, .int .i64 0, .int .i64 0, .int .i64 0, .int .i64 0, .int .i64 0, .int .i64 0, .int .i64 0, .int .i64 0, .int .i64 0, .int .i64 0, .int .i64 0, .int .i64 0, .int .i64 0, .int .i64 0, .int .i64 0, .int .i64 0, .int .i64 0, .int .i64 0, .int .i64 0, .int .i64 0, .int .i64 0, .int .i64 0, .int .i64 0, .int .i64 0, .int .i64 0, .int .i64 0, .int .i64 0, .int .i64 0, .int .i64 0, .int .i64 0, .int .i64 0, .int .i64 0, .int .i64 0, .int .i64 0, .int .i64 0, .int .i64 0, .int .i64 0, .int .i64 0, .int .i64 0, .int .i64 0, .int .i64 0, .int .i64 0, .int .i64 0, .int .i64 0, .int .i64 0, .int .i64 0, .int .i64 0, .int .i64 0, .int .i64 0, .int .i64 0, .int .i64 0, .int .i64 0, .int .i64 0, .int .i64 0, .int .i64 0, .int .i64 0, .int .i64 0, .int .i64 0, .int .i64 0, .int .i64 0, .int .i64 0, .int .i64 0, .int .i64 0, .int .i64 0, .int .i64 0, .int .i64 0, .int .i64 0, .int .i64 0, .int .i64 0, .int .i64 0, .int .i64 0, .int .i64 0, .int .i64 0, .int .i64 0, .int .i64 0, .int .i64 0, .int .i64 0, .int .i64 0, .int .i64 0, .int .i64 0, .int .i64 0, .int .i64 0, .int .i64 0, .int .i64 0, .int .i64 0, .int .i64 0, .int .i64 0, .int .i64 0, .int .i64 0, .int .i64 0, .int .i64 0, .int .i64 0, .int .i64 0, .int .i64 0, .int .i64 0, .int .i64 0, .int .i64 0, .int .i64 0, .int .i64 0, .int .i64 0, .int .i64 0, .int .i64 0, .int .i64 0, .int .i64 0, .int .i64 0, .int .i64 0, .int .i64 0, .int .i64 0, .int .i64 0, .int .i64 0, .int .i64 0, .int .i64 0, .int .i64 0, .int .i64 0, .int .i64 0, .int .i64 0, .int .i64 0, .int .i64 0, .int .i64 0, .int .i64 0, .int .i64 0, .int .i64 0, .int .i64 0, .int .i64 0, .int .i64 0, .int .i64 0, .int .i64 0, .int .i64 0, .int .i64 0, .int .i64 0, .int .i64 0, .int .i64 0, .int .i64 0, .int .i64 0, .int .i64 0, .int .i64 0, .int .i64 0, .int .i64 0, .int .i64 0, .int .i64 0, .int .i64 0, .int .i64 0, .int .i64 0, .int .i64 0, .int .i64 0, .int .i64 0, .int .i64 0, .int .i64 0, .int .i64 0, .int .i64 0, .int .i64 0, .int .i64 0, .int .i64 0, .int .i64 0, .int .i64 0, .int .i64 0, .int .i64 0, .int .i64 0, .int .i64 0, .int .i64 0, .int .i64 0, .int .i64 0, .int .i64 0, .int .i64 0, .int .i64 0, .int .i64 0, .int .i64 0, .int .i64 0, .int .i64 0, .int .i64 0, .int .i64 0, .int .i64 0, .int .i64 0]) := by kernel_rfl
theorem zr113 : zq Tryd.prog 113 = some (.nilFunc) := by kernel_rfl
theorem zr114 : zq Tryd.prog 114 = some (.agg #[.int .i64 0, .int .u64 0, .int .u64 0, .int .u64 0, .int .u64 0, .int .u64 0, .int .u64 0, .int .u64 0, .int .u64 0, .int .u64 0, .int .u64 0, .int .u64 0, .int .u64 0, .int .u64 0, .int .i64 0, .int .u64 0, .int .u64 0, .int .u64 0, .int .u64 0, .int .u64 0, .int .u64 0, .int .u64 0, .int .u64 0, .int .u64 0, .int .u64 0, .int .u64 0, .int .u64 0, .int .u64 0]) := by kernel_rfl
theorem zr115 : zq Tryd.prog 115 = some (.nilFunc) := by kernel_rfl
theorem zr116 : zq Tryd.prog 116 = some (.nilFunc) := by kernel_rfl
theorem zr117 : zq Tryd.prog 117 = some (.nilFunc) := by kernel_rfl
theorem zr118 : zq Tryd.prog 118 = some (.nilFunc) := by kernel_rfl
theorem zr119 : zq Tryd.prog 119 = some (.nilFunc) := by kernel_rfl
theorem zr120 : zq Tryd.prog 120 = some (.agg #[.int .u8 0, .int .u8 0, .int .u8 0, .int .u8 0, .int .u8 0, .int .u8 0, .int .u8 0, .int .u8 0, .int .u8 0, .int .u8 0, .int .u8 0, .int .u8 0, .int .u8 0, .int .u8 0, .int .u8 0, .int .u8 0, .int .u8 0, .int .u8 0, .int .u8 0, .int .u8 0, .int .u8 0, .int .u8 0, .int .u8 0, .int .u8 0, .int .u8 0, .int .u8 0, .int .u8 0, .int .u8 0, .int .u8 0, .int .u8 0, .int .u8 0, .int .u8 0]) := by kernel_rfl
theorem zr121 : zq Tryd.prog 121 = some (.nilFunc) := by kernel_rfl
theorem zr122 : zq Tryd.prog 122 = some (.nilFunc) := by kernel_rfl
theorem zr123 : zq Tryd.prog 123 = some (.nilFunc) := by kernel_rfl
theorem zr124 : zq Tryd.prog 124 = some (.nilFunc) := by kernel_rfl
theorem zr125 : zq Tryd.prog 125 = some (.int .u32 0) := by kernel_rfl
theorem zr126 : zq Tryd.prog 126 = some (.tuple #[.int .u32 0, .int .u32 0]) := by kernel_rfl
theorem zr127 : zq Tryd.prog 127 = some (.nilFunc) := by kernel_rfl
theorem zr128 : zq Tryd.prog 128 = some (.tuple #[.int .u64 0, .int .u64 0]) := by kernel_rfl
theorem zr129 : zq Tryd.prog 129 = some (.nilFunc) := by kernel_rfl
theorem zr130 : zq Tryd.prog 130 = some (.nilFunc) := by kernel_rfl
theorem zr131 : zq Tryd.prog 131 = some (.nilFunc) := by kernel_rfl
theorem zr132 : zq Tryd.prog 132 = some (.slice none 0 0) := by kernel_rfl
theorem zr133 : zq Tryd.prog 133 = some (.nilFunc) := by kernel_rfl
theorem zr134 : zq Tryd.prog 134 = some (.nilFunc) := by kernel_rfl
theorem zr135 : zq Tryd.prog 135 = some (.nilFunc) := by kernel_rfl
theorem zr136 : zq Tryd.prog 136 = some (.nilFunc) := by kernel_rfl
theorem zr137 : zq Tryd.prog 137 = some (.nilFunc) := by kernel_rfl
theorem zr138 : zq Tryd.prog 138 = some (.slice none 0 0) := by kernel_rfl
theorem zr139 : zq Tryd.prog 139 = some (.nilFunc) := by kernel_rfl
theorem zr140 : zq Tryd.prog 140 = some (.nilFunc) := by kernel_rfl
theorem zr141 : zq Tryd.prog 141 = some (.nilFunc) := by kernel_rfl
theorem zr142 : zq Tryd.prog 142 = some (.tuple #[.agg #[.int .u64 0, .int .u64 0, .int .u64 0, .int .u64 0], .int .u64 0]) := by kernel_rfl
theorem zr143 : zq Tryd.prog 143 = some (.nilFunc) := by kernel_rfl
theorem zr144 : zq Tryd.prog 144 = some (.nilFunc) := by kernel_rfl
theorem zr145 : zq Tryd.prog 145 = some (.agg #[.int .u64 0, .int .u64 0, .int .u64 0, .int .u64 0, .int .u64 0, .int .u64 0]) := by kernel_rfl
theorem zr146 : zq Tryd.prog 146 = some (.nilFunc) := by kernel_rfl
theorem zr147 : zq Tryd.prog 147 = some (.nilFunc) := by kernel_rfl
theorem zr148 : zq Tryd.prog 148 = some (.nilFunc) := by kernel_rfl
theorem zr149 : zq Tryd.prog 149 = some (.nilFunc) := by kernel_rfl
theorem zr150 : zq Tryd.prog 150 = some (.nilFunc) := by kernel_rfl
theorem zr151 : zq Tryd.prog 151 = some (.agg #[.nilFunc]) := by kernel_rfl
theorem zr152 : zq Tryd.prog 152 = some (.agg #[.nilFunc]) := by kernel_rfl
theorem zr153 : zq Tryd.prog 153 = some (.nilFunc) := by kernel_rfl
theorem zr154 : zq Tryd.prog 154 = some (.nilFunc) := by kernel_rfl
theorem zr155 : zq Tryd.prog 155 = some (.agg #[.pointer none, .pointer none, .pointer none, .string ⟨#[]⟩]) := by kernel_rfl
theorem zr156 : zq Tryd.prog 156 = some (.agg #[.pointer none, .pointer none, .pointer none, .string ⟨#[]⟩]) := by kernel_rfl
theorem zr157 : zq Tryd.prog 157 = some (.agg #[]) := by kernel_rfl
theorem zr158 : zq Tryd.prog 158 = some (.agg #[]) := by kernel_rfl
theorem zr159 : zq Tryd.prog 159 = some (.agg #[]) := by kernel_rfl
theorem zr160 : zq Tryd.prog 160 = some (.int .u8 0) := by kernel_rfl
theorem zr161 : zq Tryd.prog 161 = some (.int .u8 0) := by kernel_rfl
theorem zr162 : zq Tryd.prog 162 = some (.nilFunc) := by kernel_rfl
theorem zr163 : zq Tryd.prog 163 = some (.pointer none) := by kernel_rfl
theorem zr164 : zq Tryd.prog 164 = some (.int .i32 0) := by kernel_rfl
theorem zr165 : zq Tryd.prog 165 = some (.int .i32 0) := by kernel_rfl
theorem zr166 : zq Tryd.prog 166 = some (.agg #[.int .u64 0, .int .u64 0, .int .u32 0, .int .u8 0, .int .u8 0, .int .u8 0, .int .u8 0, .nilFunc, .pointer none, .int .i32 0, .int .i32 0]) := by kernel_rfl
theorem zr167 : zq Tryd.prog 167 = some (.agg #[.int .u64 0, .int .u64 0, .int .u32 0, .int .u8 0, .int .u8 0, .int .u8 0, .int .u8 0, .nilFunc, .pointer none, .int .i32 0, .int .i32 0]) := by kernel_rfl
theorem zr168 : zq Tryd.prog 168 = some (.nilFunc) := by kernel_rfl
theorem zr169 : zq Tryd.prog 169 = some (.pointer none) := by kernel_rfl
end Go.Proofs.YtpggmebgndkpjaaDoor
