/- Facts on the program's types and functions. -/
import Derived.Test.YtjhfepkpfakemaaDoorSym
import Derived.Test.YtjhfepkpfakemaaDoorProg
namespace Go.Proofs.YtjhfepkpfakemaaDoor
set_option linter.all false
open Go Go.RowKit
theorem eg50 : Tryd.prog.eqGuardType Tryd.prog.depth 50 = false := by kernel_rfl
theorem eg51 : Tryd.prog.eqGuardType Tryd.prog.depth 51 = false := by kernel_rfl
theorem eg71 : Tryd.prog.eqGuardType Tryd.prog.depth 71 = false := by kernel_rfl
theorem eg89 : Tryd.prog.eqGuardType Tryd.prog.depth 89 = false := by kernel_rfl
theorem eg98 : Tryd.prog.eqGuardType Tryd.prog.depth 98 = false := by kernel_rfl
theorem eg104 : Tryd.prog.eqGuardType Tryd.prog.depth 104 = false := by kernel_rfl
theorem eg105 : Tryd.prog.eqGuardType Tryd.prog.depth 105 = false := by kernel_rfl
theorem eg116 : Tryd.prog.eqGuardType Tryd.prog.depth 116 = false := by kernel_rfl
theorem fl7 : flq Tryd.prog 7 = some [(0, 1), (1, 1), (2, 1), (3, 1)] := by kernel_rfl
theorem fl8 : flq Tryd.prog 8 = some [(0, 1), (1, 1), (2, 1), (3, 1)] := by kernel_rfl
theorem fl13 : flq Tryd.prog 13 = some [(0, 1), (1, 1)] := by kernel_rfl
theorem fl14 : flq Tryd.prog 14 = some [(0, 1), (1, 1)] := by kernel_rfl
theorem fl18 : flq Tryd.prog 18 = some [(0, 1)] := by kernel_rfl
theorem fl19 : flq Tryd.prog 19 = some [(0, 1)] := by kernel_rfl
theorem fl26 : flq Tryd.prog 26 = some [(0, 1), (1, 1), (2, 1), (3, 1), (4, 1)] := by kernel_rfl
theorem fl27 : flq Tryd.prog 27 = some [(0, 1), (1, 1), (2, 1), (3, 1), (4, 1)] := by kernel_rfl
theorem fl52 : flq Tryd.prog 52 = some [(0, 1), (1, 4), (5, 1), (6, 4), (10, 4)] := by kernel_rfl
theorem fl53 : flq Tryd.prog 53 = some [(0, 1), (1, 4), (5, 1), (6, 4), (10, 4)] := by kernel_rfl
theorem fl106 : flq Tryd.prog 106 = some [(0, 8), (8, 1), (9, 1)] := by kernel_rfl
theorem fl107 : flq Tryd.prog 107 = some [(0, 8), (8, 1), (9, 1)] := by kernel_rfl
theorem fl112 : flq Tryd.prog 112 = some [(0, 1)] := by kernel_rfl
theorem fl113 : flq Tryd.prog 113 = some [(0, 1)] := by kernel_rfl
theorem fl121 : flq Tryd.prog 121 = some [(0, 1), (1, 1), (2, 1), (3, 1)] := by kernel_rfl
theorem fl122 : flq Tryd.prog 122 = some [(0, 1), (1, 1), (2, 1), (3, 1)] := by kernel_rfl
theorem fl124 : flq Tryd.prog 124 = some [(0, 0)] := by kernel_rfl
theorem fl125 : flq Tryd.prog 125 = some [(0, 0)] := by kernel_rfl
theorem fl133 : flq Tryd.prog 133 = some [(0, 1), (1, 1), (2, 1), (3, 1), (4, 1), (5, 1), (6, 1), (7, 1), (8, 1), (9, 1), (10, 1)] := by kernel_rfl
theorem fl134 : flq Tryd.prog 134 = some [(0, 1), (1, 1), (2, 1), (3, 1), (4, 1), (5, 1), (6, 1), (7, 1), (8, 1), (9, 1), (10, 1)] := by kernel_rfl
theorem fo2 : (Tryd.f2.name != "runtime.NumGoroutine" && Tryd.f2.body.isSome) = true := by kernel_rfl
theorem fo3 : (Tryd.f3.name != "runtime.NumGoroutine" && Tryd.f3.body.isSome) = true := by kernel_rfl
theorem fo4 : (Tryd.f4.name != "runtime.NumGoroutine" && Tryd.f4.body.isSome) = true := by kernel_rfl
theorem fo5 : (Tryd.f5.name != "runtime.NumGoroutine" && Tryd.f5.body.isSome) = true := by kernel_rfl
theorem fo6 : (Tryd.f6.name != "runtime.NumGoroutine" && Tryd.f6.body.isSome) = true := by kernel_rfl
theorem fo7 : (Tryd.f7.name != "runtime.NumGoroutine" && Tryd.f7.body.isSome) = true := by kernel_rfl
theorem fo8 : (Tryd.f8.name != "runtime.NumGoroutine" && Tryd.f8.body.isSome) = true := by kernel_rfl
theorem fo9 : (Tryd.f9.name != "runtime.NumGoroutine" && Tryd.f9.body.isSome) = true := by kernel_rfl
theorem fo10 : (Tryd.f10.name != "runtime.NumGoroutine" && Tryd.f10.body.isSome) = true := by kernel_rfl
theorem fo11 : (Tryd.f11.name != "runtime.NumGoroutine" && Tryd.f11.body.isSome) = true := by kernel_rfl
theorem fo12 : (Tryd.f12.name != "runtime.NumGoroutine" && Tryd.f12.body.isSome) = true := by kernel_rfl
theorem fo13 : (Tryd.f13.name != "runtime.NumGoroutine" && Tryd.f13.body.isSome) = true := by kernel_rfl
theorem fo14 : (Tryd.f14.name != "runtime.NumGoroutine" && Tryd.f14.body.isSome) = true := by kernel_rfl
theorem fo15 : (Tryd.f15.name != "runtime.NumGoroutine" && Tryd.f15.body.isSome) = true := by kernel_rfl
theorem fo16 : (Tryd.f16.name != "runtime.NumGoroutine" && Tryd.f16.body.isSome) = true := by kernel_rfl
theorem fo17 : (Tryd.f17.name != "runtime.NumGoroutine" && Tryd.f17.body.isSome) = true := by kernel_rfl
theorem fo18 : (Tryd.f18.name != "runtime.NumGoroutine" && Tryd.f18.body.isSome) = true := by kernel_rfl
theorem fo19 : (Tryd.f19.name != "runtime.NumGoroutine" && Tryd.f19.body.isSome) = true := by kernel_rfl
theorem fo20 : (Tryd.f20.name != "runtime.NumGoroutine" && Tryd.f20.body.isSome) = true := by kernel_rfl
theorem fo21 : (Tryd.f21.name != "runtime.NumGoroutine" && Tryd.f21.body.isSome) = true := by kernel_rfl
theorem fo22 : (Tryd.f22.name != "runtime.NumGoroutine" && Tryd.f22.body.isSome) = true := by kernel_rfl
theorem fo23 : (Tryd.f23.name != "runtime.NumGoroutine" && Tryd.f23.body.isSome) = true := by kernel_rfl
theorem fo24 : (Tryd.f24.name != "runtime.NumGoroutine" && Tryd.f24.body.isSome) = true := by kernel_rfl
theorem fo25 : (Tryd.f25.name != "runtime.NumGoroutine" && Tryd.f25.body.isSome) = true := by kernel_rfl
theorem fo26 : (Tryd.f26.name != "runtime.NumGoroutine" && Tryd.f26.body.isSome) = true := by kernel_rfl
theorem fo27 : (Tryd.f27.name != "runtime.NumGoroutine" && Tryd.f27.body.isSome) = true := by kernel_rfl
theorem fo28 : (Tryd.f28.name != "runtime.NumGoroutine" && Tryd.f28.body.isSome) = true := by kernel_rfl
theorem fo29 : (Tryd.f29.name != "runtime.NumGoroutine" && Tryd.f29.body.isSome) = true := by kernel_rfl
theorem fo30 : (Tryd.f30.name != "runtime.NumGoroutine" && Tryd.f30.body.isSome) = true := by kernel_rfl
theorem fo31 : (Tryd.f31.name != "runtime.NumGoroutine" && Tryd.f31.body.isSome) = true := by kernel_rfl
theorem fo32 : (Tryd.f32.name != "runtime.NumGoroutine" && Tryd.f32.body.isSome) = true := by kernel_rfl
theorem fo33 : (Tryd.f33.name != "runtime.NumGoroutine" && Tryd.f33.body.isSome) = true := by kernel_rfl
theorem fo34 : (Tryd.f34.name != "runtime.NumGoroutine" && Tryd.f34.body.isSome) = true := by kernel_rfl
theorem fo35 : (Tryd.f35.name != "runtime.NumGoroutine" && Tryd.f35.body.isSome) = true := by kernel_rfl
theorem fo36 : (Tryd.f36.name != "runtime.NumGoroutine" && Tryd.f36.body.isSome) = true := by kernel_rfl
theorem fo37 : (Tryd.f37.name != "runtime.NumGoroutine" && Tryd.f37.body.isSome) = true := by kernel_rfl
theorem fo38 : (Tryd.f38.name != "runtime.NumGoroutine" && Tryd.f38.body.isSome) = true := by kernel_rfl
theorem fo39 : (Tryd.f39.name != "runtime.NumGoroutine" && Tryd.f39.body.isSome) = true := by kernel_rfl
theorem fo40 : (Tryd.f40.name != "runtime.NumGoroutine" && Tryd.f40.body.isSome) = true := by kernel_rfl
theorem fo41 : (Tryd.f41.name != "runtime.NumGoroutine" && Tryd.f41.body.isSome) = true := by kernel_rfl
theorem fo42 : (Tryd.f42.name != "runtime.NumGoroutine" && Tryd.f42.body.isSome) = true := by kernel_rfl
theorem fo43 : (Tryd.f43.name != "runtime.NumGoroutine" && Tryd.f43.body.isSome) = true := by kernel_rfl
theorem fo44 : (Tryd.f44.name != "runtime.NumGoroutine" && Tryd.f44.body.isSome) = true := by kernel_rfl
theorem fo45 : (Tryd.f45.name != "runtime.NumGoroutine" && Tryd.f45.body.isSome) = true := by kernel_rfl
theorem fo46 : (Tryd.f46.name != "runtime.NumGoroutine" && Tryd.f46.body.isSome) = true := by kernel_rfl
theorem fo47 : (Tryd.f47.name != "runtime.NumGoroutine" && Tryd.f47.body.isSome) = true := by kernel_rfl
theorem fo48 : (Tryd.f48.name != "runtime.NumGoroutine" && Tryd.f48.body.isSome) = true := by kernel_rfl
theorem fo49 : (Tryd.f49.name != "runtime.NumGoroutine" && Tryd.f49.body.isSome) = true := by kernel_rfl
theorem fo50 : (Tryd.f50.name != "runtime.NumGoroutine" && Tryd.f50.body.isSome) = true := by kernel_rfl
theorem fo51 : (Tryd.f51.name != "runtime.NumGoroutine" && Tryd.f51.body.isSome) = true := by kernel_rfl
theorem fo52 : (Tryd.f52.name != "runtime.NumGoroutine" && Tryd.f52.body.isSome) = true := by kernel_rfl
theorem fo53 : (Tryd.f53.name != "runtime.NumGoroutine" && Tryd.f53.body.isSome) = true := by kernel_rfl
theorem fo54 : (Tryd.f54.name != "runtime.NumGoroutine" && Tryd.f54.body.isSome) = true := by kernel_rfl
theorem fo55 : (Tryd.f55.name != "runtime.NumGoroutine" && Tryd.f55.body.isSome) = true := by kernel_rfl
theorem fo56 : (Tryd.f56.name != "runtime.NumGoroutine" && Tryd.f56.body.isSome) = true := by kernel_rfl
theorem fo57 : (Tryd.f57.name != "runtime.NumGoroutine" && Tryd.f57.body.isSome) = true := by kernel_rfl
theorem fo58 : (Tryd.f58.name != "runtime.NumGoroutine" && Tryd.f58.body.isSome) = true := by kernel_rfl
theorem fo59 : (Tryd.f59.name != "runtime.NumGoroutine" && Tryd.f59.body.isSome) = true := by kernel_rfl
theorem fo60 : (Tryd.f60.name != "runtime.NumGoroutine" && Tryd.f60.body.isSome) = true := by kernel_rfl
theorem fo61 : (Tryd.f61.name != "runtime.NumGoroutine" && Tryd.f61.body.isSome) = true := by kernel_rfl
theorem fo62 : (Tryd.f62.name != "runtime.NumGoroutine" && Tryd.f62.body.isSome) = true := by kernel_rfl
theorem fo63 : (Tryd.f63.name != "runtime.NumGoroutine" && Tryd.f63.body.isSome) = true := by kernel_rfl
theorem fo64 : (Tryd.f64.name != "runtime.NumGoroutine" && Tryd.f64.body.isSome) = true := by kernel_rfl
theorem fo65 : (Tryd.f65.name != "runtime.NumGoroutine" && Tryd.f65.body.isSome) = true := by kernel_rfl
theorem fo66 : (Tryd.f66.name != "runtime.NumGoroutine" && Tryd.f66.body.isSome) = true := by kernel_rfl
theorem fo67 : (Tryd.f67.name != "runtime.NumGoroutine" && Tryd.f67.body.isSome) = true := by kernel_rfl
theorem fo68 : (Tryd.f68.name != "runtime.NumGoroutine" && Tryd.f68.body.isSome) = true := by kernel_rfl
theorem fo69 : (Tryd.f69.name != "runtime.NumGoroutine" && Tryd.f69.body.isSome) = true := by kernel_rfl
theorem fo70 : (Tryd.f70.name != "runtime.NumGoroutine" && Tryd.f70.body.isSome) = true := by kernel_rfl
theorem fo71 : (Tryd.f71.name != "runtime.NumGoroutine" && Tryd.f71.body.isSome) = true := by kernel_rfl
theorem fo73 : (Tryd.f73.name != "runtime.NumGoroutine" && Tryd.f73.body.isSome) = true := by kernel_rfl
theorem fo74 : (Tryd.f74.name != "runtime.NumGoroutine" && Tryd.f74.body.isSome) = true := by kernel_rfl
theorem fo75 : (Tryd.f75.name != "runtime.NumGoroutine" && Tryd.f75.body.isSome) = true := by kernel_rfl
theorem fo76 : (Tryd.f76.name != "runtime.NumGoroutine" && Tryd.f76.body.isSome) = true := by kernel_rfl
theorem fo77 : (Tryd.f77.name != "runtime.NumGoroutine" && Tryd.f77.body.isSome) = true := by kernel_rfl
theorem fo78 : (Tryd.f78.name != "runtime.NumGoroutine" && Tryd.f78.body.isSome) = true := by kernel_rfl
theorem fo79 : (Tryd.f79.name != "runtime.NumGoroutine" && Tryd.f79.body.isSome) = true := by kernel_rfl
theorem fo80 : (Tryd.f80.name != "runtime.NumGoroutine" && Tryd.f80.body.isSome) = true := by kernel_rfl
theorem fo82 : (Tryd.f82.name != "runtime.NumGoroutine" && Tryd.f82.body.isSome) = true := by kernel_rfl
theorem fo83 : (Tryd.f83.name != "runtime.NumGoroutine" && Tryd.f83.body.isSome) = true := by kernel_rfl
theorem fo84 : (Tryd.f84.name != "runtime.NumGoroutine" && Tryd.f84.body.isSome) = true := by kernel_rfl
theorem fo85 : (Tryd.f85.name != "runtime.NumGoroutine" && Tryd.f85.body.isSome) = true := by kernel_rfl
theorem fo86 : (Tryd.f86.name != "runtime.NumGoroutine" && Tryd.f86.body.isSome) = true := by kernel_rfl
theorem fo87 : (Tryd.f87.name != "runtime.NumGoroutine" && Tryd.f87.body.isSome) = true := by kernel_rfl
theorem fo88 : (Tryd.f88.name != "runtime.NumGoroutine" && Tryd.f88.body.isSome) = true := by kernel_rfl
theorem fo89 : (Tryd.f89.name != "runtime.NumGoroutine" && Tryd.f89.body.isSome) = true := by kernel_rfl
theorem fo90 : (Tryd.f90.name != "runtime.NumGoroutine" && Tryd.f90.body.isSome) = true := by kernel_rfl
theorem fo114 : (Tryd.f114.name != "runtime.NumGoroutine" && Tryd.f114.body.isSome) = true := by kernel_rfl
theorem fq7_0 : fq Tryd.prog 7 0 = some (2, 0) := by kernel_rfl
theorem fq7_1 : fq Tryd.prog 7 1 = some (3, 1) := by kernel_rfl
theorem fq7_2 : fq Tryd.prog 7 2 = some (4, 2) := by kernel_rfl
theorem fq7_3 : fq Tryd.prog 7 3 = some (6, 3) := by kernel_rfl
theorem fq8_0 : fq Tryd.prog 8 0 = some (2, 0) := by kernel_rfl
theorem fq8_1 : fq Tryd.prog 8 1 = some (3, 1) := by kernel_rfl
theorem fq8_2 : fq Tryd.prog 8 2 = some (4, 2) := by kernel_rfl
theorem fq8_3 : fq Tryd.prog 8 3 = some (6, 3) := by kernel_rfl
theorem fq13_0 : fq Tryd.prog 13 0 = some (9, 0) := by kernel_rfl
theorem fq13_1 : fq Tryd.prog 13 1 = some (12, 1) := by kernel_rfl
theorem fq14_0 : fq Tryd.prog 14 0 = some (9, 0) := by kernel_rfl
theorem fq14_1 : fq Tryd.prog 14 1 = some (12, 1) := by kernel_rfl
theorem fq18_0 : fq Tryd.prog 18 0 = some (17, 0) := by kernel_rfl
theorem fq19_0 : fq Tryd.prog 19 0 = some (17, 0) := by kernel_rfl
theorem fq26_0 : fq Tryd.prog 26 0 = some (3, 0) := by kernel_rfl
theorem fq26_1 : fq Tryd.prog 26 1 = some (3, 1) := by kernel_rfl
theorem fq26_2 : fq Tryd.prog 26 2 = some (3, 2) := by kernel_rfl
theorem fq26_3 : fq Tryd.prog 26 3 = some (3, 3) := by kernel_rfl
theorem fq26_4 : fq Tryd.prog 26 4 = some (25, 4) := by kernel_rfl
theorem fq27_0 : fq Tryd.prog 27 0 = some (3, 0) := by kernel_rfl
theorem fq27_1 : fq Tryd.prog 27 1 = some (3, 1) := by kernel_rfl
theorem fq27_2 : fq Tryd.prog 27 2 = some (3, 2) := by kernel_rfl
theorem fq27_3 : fq Tryd.prog 27 3 = some (3, 3) := by kernel_rfl
theorem fq27_4 : fq Tryd.prog 27 4 = some (25, 4) := by kernel_rfl
theorem fq52_0 : fq Tryd.prog 52 0 = some (3, 0) := by kernel_rfl
theorem fq52_1 : fq Tryd.prog 52 1 = some (50, 1) := by kernel_rfl
theorem fq52_2 : fq Tryd.prog 52 2 = some (49, 5) := by kernel_rfl
theorem fq52_3 : fq Tryd.prog 52 3 = some (51, 6) := by kernel_rfl
theorem fq52_4 : fq Tryd.prog 52 4 = some (50, 10) := by kernel_rfl
theorem fq53_0 : fq Tryd.prog 53 0 = some (3, 0) := by kernel_rfl
theorem fq53_1 : fq Tryd.prog 53 1 = some (50, 1) := by kernel_rfl
theorem fq53_2 : fq Tryd.prog 53 2 = some (49, 5) := by kernel_rfl
theorem fq53_3 : fq Tryd.prog 53 3 = some (51, 6) := by kernel_rfl
theorem fq53_4 : fq Tryd.prog 53 4 = some (50, 10) := by kernel_rfl
theorem fq106_0 : fq Tryd.prog 106 0 = some (105, 0) := by kernel_rfl
theorem fq106_1 : fq Tryd.prog 106 1 = some (29, 8) := by kernel_rfl
theorem fq106_2 : fq Tryd.prog 106 2 = some (3, 9) := by kernel_rfl
theorem fq107_0 : fq Tryd.prog 107 0 = some (105, 0) := by kernel_rfl
theorem fq107_1 : fq Tryd.prog 107 1 = some (29, 8) := by kernel_rfl
theorem fq107_2 : fq Tryd.prog 107 2 = some (3, 9) := by kernel_rfl
theorem fq112_0 : fq Tryd.prog 112 0 = some (101, 0) := by kernel_rfl
theorem fq113_0 : fq Tryd.prog 113 0 = some (101, 0) := by kernel_rfl
theorem fq121_0 : fq Tryd.prog 121 0 = some (17, 0) := by kernel_rfl
theorem fq121_1 : fq Tryd.prog 121 1 = some (17, 1) := by kernel_rfl
theorem fq121_2 : fq Tryd.prog 121 2 = some (17, 2) := by kernel_rfl
theorem fq121_3 : fq Tryd.prog 121 3 = some (9, 3) := by kernel_rfl
theorem fq122_0 : fq Tryd.prog 122 0 = some (17, 0) := by kernel_rfl
theorem fq122_1 : fq Tryd.prog 122 1 = some (17, 1) := by kernel_rfl
theorem fq122_2 : fq Tryd.prog 122 2 = some (17, 2) := by kernel_rfl
theorem fq122_3 : fq Tryd.prog 122 3 = some (9, 3) := by kernel_rfl
theorem fq124_0 : fq Tryd.prog 124 0 = some (123, 0) := by kernel_rfl
theorem fq125_0 : fq Tryd.prog 125 0 = some (123, 0) := by kernel_rfl
theorem fq133_0 : fq Tryd.prog 133 0 = some (12, 0) := by kernel_rfl
theorem fq133_1 : fq Tryd.prog 133 1 = some (12, 1) := by kernel_rfl
theorem fq133_2 : fq Tryd.prog 133 2 = some (93, 2) := by kernel_rfl
theorem fq133_3 : fq Tryd.prog 133 3 = some (127, 3) := by kernel_rfl
theorem fq133_4 : fq Tryd.prog 133 4 = some (5, 4) := by kernel_rfl
theorem fq133_5 : fq Tryd.prog 133 5 = some (5, 5) := by kernel_rfl
theorem fq133_6 : fq Tryd.prog 133 6 = some (128, 6) := by kernel_rfl
theorem fq133_7 : fq Tryd.prog 133 7 = some (129, 7) := by kernel_rfl
theorem fq133_8 : fq Tryd.prog 133 8 = some (130, 8) := by kernel_rfl
theorem fq133_9 : fq Tryd.prog 133 9 = some (131, 9) := by kernel_rfl
theorem fq133_10 : fq Tryd.prog 133 10 = some (132, 10) := by kernel_rfl
theorem fq134_0 : fq Tryd.prog 134 0 = some (12, 0) := by kernel_rfl
theorem fq134_1 : fq Tryd.prog 134 1 = some (12, 1) := by kernel_rfl
theorem fq134_2 : fq Tryd.prog 134 2 = some (93, 2) := by kernel_rfl
theorem fq134_3 : fq Tryd.prog 134 3 = some (127, 3) := by kernel_rfl
theorem fq134_4 : fq Tryd.prog 134 4 = some (5, 4) := by kernel_rfl
theorem fq134_5 : fq Tryd.prog 134 5 = some (5, 5) := by kernel_rfl
theorem fq134_6 : fq Tryd.prog 134 6 = some (128, 6) := by kernel_rfl
theorem fq134_7 : fq Tryd.prog 134 7 = some (129, 7) := by kernel_rfl
theorem fq134_8 : fq Tryd.prog 134 8 = some (130, 8) := by kernel_rfl
theorem fq134_9 : fq Tryd.prog 134 9 = some (131, 9) := by kernel_rfl
theorem fq134_10 : fq Tryd.prog 134 10 = some (132, 10) := by kernel_rfl
theorem ty0 : tq Tryd.prog 0 = some (false, 1, 0) := by kernel_rfl
theorem ty1 : tq Tryd.prog 1 = some (false, 1, 8) := by kernel_rfl
theorem ty2 : tq Tryd.prog 2 = some (false, 1, 8) := by kernel_rfl
theorem ty3 : tq Tryd.prog 3 = some (false, 1, 8) := by kernel_rfl
theorem ty4 : tq Tryd.prog 4 = some (false, 1, 1) := by kernel_rfl
theorem ty5 : tq Tryd.prog 5 = some (false, 1, 1) := by kernel_rfl
theorem ty6 : tq Tryd.prog 6 = some (false, 1, 1) := by kernel_rfl
theorem ty7 : tq Tryd.prog 7 = some (true, 4, 24) := by kernel_rfl
theorem ty8 : tq Tryd.prog 8 = some (true, 4, 24) := by kernel_rfl
theorem ty9 : tq Tryd.prog 9 = some (false, 1, 16) := by kernel_rfl
theorem ty10 : tq Tryd.prog 10 = some (false, 1, 16) := by kernel_rfl
theorem ty11 : tq Tryd.prog 11 = some (false, 1, 16) := by kernel_rfl
theorem ty12 : tq Tryd.prog 12 = some (false, 1, 8) := by kernel_rfl
theorem ty13 : tq Tryd.prog 13 = some (true, 2, 24) := by kernel_rfl
theorem ty14 : tq Tryd.prog 14 = some (true, 2, 24) := by kernel_rfl
theorem ty15 : tq Tryd.prog 15 = some (false, 1, 8) := by kernel_rfl
theorem ty16 : tq Tryd.prog 16 = some (false, 1, 8) := by kernel_rfl
theorem ty17 : tq Tryd.prog 17 = some (false, 1, 8) := by kernel_rfl
theorem ty18 : tq Tryd.prog 18 = some (true, 1, 8) := by kernel_rfl
theorem ty19 : tq Tryd.prog 19 = some (true, 1, 8) := by kernel_rfl
theorem ty20 : tq Tryd.prog 20 = some (false, 1, 16) := by kernel_rfl
theorem ty21 : tq Tryd.prog 21 = some (false, 1, 4) := by kernel_rfl
theorem ty22 : tq Tryd.prog 22 = some (false, 1, 8) := by kernel_rfl
theorem ty23 : tq Tryd.prog 23 = some (false, 1, 8) := by kernel_rfl
theorem ty24 : tq Tryd.prog 24 = some (false, 1, 8) := by kernel_rfl
theorem ty25 : tq Tryd.prog 25 = some (false, 1, 24) := by kernel_rfl
theorem ty26 : tq Tryd.prog 26 = some (true, 5, 56) := by kernel_rfl
theorem ty27 : tq Tryd.prog 27 = some (true, 5, 56) := by kernel_rfl
theorem ty28 : tq Tryd.prog 28 = some (false, 1, 8) := by kernel_rfl
theorem ty29 : tq Tryd.prog 29 = some (false, 1, 24) := by kernel_rfl
theorem ty30 : tq Tryd.prog 30 = some (false, 1, 8) := by kernel_rfl
theorem ty31 : tq Tryd.prog 31 = some (false, 1, 0) := by kernel_rfl
theorem ty32 : tq Tryd.prog 32 = some (false, 1, 8) := by kernel_rfl
theorem ty33 : tq Tryd.prog 33 = some (false, 1, 0) := by kernel_rfl
theorem ty34 : tq Tryd.prog 34 = some (false, 1, 8) := by kernel_rfl
theorem ty35 : tq Tryd.prog 35 = some (false, 1, 8) := by kernel_rfl
theorem ty36 : tq Tryd.prog 36 = some (false, 1, 0) := by kernel_rfl
theorem ty37 : tq Tryd.prog 37 = some (false, 1, 8) := by kernel_rfl
theorem ty38 : tq Tryd.prog 38 = some (false, 1, 0) := by kernel_rfl
theorem ty39 : tq Tryd.prog 39 = some (false, 1, 8) := by kernel_rfl
theorem ty40 : tq Tryd.prog 40 = some (false, 1, 8) := by kernel_rfl
theorem ty41 : tq Tryd.prog 41 = some (false, 1, 24) := by kernel_rfl
theorem ty42 : tq Tryd.prog 42 = some (false, 1, 8) := by kernel_rfl
theorem ty43 : tq Tryd.prog 43 = some (false, 1, 8) := by kernel_rfl
theorem ty44 : tq Tryd.prog 44 = some (false, 1, 8) := by kernel_rfl
theorem ty45 : tq Tryd.prog 45 = some (false, 1, 8) := by kernel_rfl
theorem ty46 : tq Tryd.prog 46 = some (false, 1, 8) := by kernel_rfl
theorem ty47 : tq Tryd.prog 47 = some (false, 1, 8) := by kernel_rfl
theorem ty48 : tq Tryd.prog 48 = some (false, 1, 8) := by kernel_rfl
theorem ty49 : tq Tryd.prog 49 = some (false, 1, 8) := by kernel_rfl
theorem ty50 : tq Tryd.prog 50 = some (true, 4, 32) := by kernel_rfl
theorem ty51 : tq Tryd.prog 51 = some (true, 4, 32) := by kernel_rfl
theorem ty52 : tq Tryd.prog 52 = some (true, 14, 112) := by kernel_rfl
theorem ty53 : tq Tryd.prog 53 = some (true, 14, 112) := by kernel_rfl
theorem ty54 : tq Tryd.prog 54 = some (false, 1, 0) := by kernel_rfl
theorem ty55 : tq Tryd.prog 55 = some (false, 1, 8) := by kernel_rfl
theorem ty56 : tq Tryd.prog 56 = some (false, 1, 8) := by kernel_rfl
theorem ty57 : tq Tryd.prog 57 = some (false, 1, 8) := by kernel_rfl
theorem ty58 : tq Tryd.prog 58 = some (false, 1, 8) := by kernel_rfl
theorem ty59 : tq Tryd.prog 59 = some (false, 1, 8) := by kernel_rfl
theorem ty60 : tq Tryd.prog 60 = some (false, 1, 8) := by kernel_rfl
theorem ty61 : tq Tryd.prog 61 = some (false, 1, 0) := by kernel_rfl
theorem ty62 : tq Tryd.prog 62 = some (false, 1, 8) := by kernel_rfl
theorem ty63 : tq Tryd.prog 63 = some (false, 1, 8) := by kernel_rfl
theorem ty64 : tq Tryd.prog 64 = some (false, 1, 0) := by kernel_rfl
theorem ty65 : tq Tryd.prog 65 = some (false, 1, 8) := by kernel_rfl
theorem ty66 : tq Tryd.prog 66 = some (false, 1, 8) := by kernel_rfl
theorem ty67 : tq Tryd.prog 67 = some (false, 1, 8) := by kernel_rfl
theorem ty68 : tq Tryd.prog 68 = some (false, 1, 8) := by kernel_rfl
theorem ty69 : tq Tryd.prog 69 = some (true, 28, 224) := by kernel_rfl
theorem ty70 : tq Tryd.prog 70 = some (false, 1, 8) := by kernel_rfl
theorem ty71 : tq Tryd.prog 71 = some (true, 32, 32) := by kernel_rfl
theorem ty72 : tq Tryd.prog 72 = some (false, 1, 8) := by kernel_rfl
theorem ty73 : tq Tryd.prog 73 = some (false, 1, 8) := by kernel_rfl
theorem ty74 : tq Tryd.prog 74 = some (false, 1, 8) := by kernel_rfl
theorem ty75 : tq Tryd.prog 75 = some (false, 1, 8) := by kernel_rfl
theorem ty76 : tq Tryd.prog 76 = some (false, 1, 8) := by kernel_rfl
theorem ty77 : tq Tryd.prog 77 = some (false, 1, 8) := by kernel_rfl
theorem ty78 : tq Tryd.prog 78 = some (false, 1, 8) := by kernel_rfl
theorem ty79 : tq Tryd.prog 79 = some (false, 1, 0) := by kernel_rfl
theorem ty80 : tq Tryd.prog 80 = some (false, 1, 8) := by kernel_rfl
theorem ty81 : tq Tryd.prog 81 = some (false, 1, 8) := by kernel_rfl
theorem ty82 : tq Tryd.prog 82 = some (false, 1, 8) := by kernel_rfl
theorem ty83 : tq Tryd.prog 83 = some (false, 1, 8) := by kernel_rfl
theorem ty84 : tq Tryd.prog 84 = some (false, 1, 8) := by kernel_rfl
theorem ty85 : tq Tryd.prog 85 = some (false, 1, 8) := by kernel_rfl
theorem ty86 : tq Tryd.prog 86 = some (false, 1, 8) := by kernel_rfl
theorem ty87 : tq Tryd.prog 87 = some (false, 1, 24) := by kernel_rfl
theorem ty88 : tq Tryd.prog 88 = some (false, 1, 8) := by kernel_rfl
theorem ty89 : tq Tryd.prog 89 = some (true, 8, 8) := by kernel_rfl
theorem ty90 : tq Tryd.prog 90 = some (false, 1, 24) := by kernel_rfl
theorem ty91 : tq Tryd.prog 91 = some (false, 1, 8) := by kernel_rfl
theorem ty92 : tq Tryd.prog 92 = some (false, 1, 8) := by kernel_rfl
theorem ty93 : tq Tryd.prog 93 = some (false, 1, 4) := by kernel_rfl
theorem ty94 : tq Tryd.prog 94 = some (false, 1, 8) := by kernel_rfl
theorem ty95 : tq Tryd.prog 95 = some (false, 1, 8) := by kernel_rfl
theorem ty96 : tq Tryd.prog 96 = some (false, 1, 8) := by kernel_rfl
theorem ty97 : tq Tryd.prog 97 = some (false, 1, 8) := by kernel_rfl
theorem ty98 : tq Tryd.prog 98 = some (true, 6, 48) := by kernel_rfl
theorem ty99 : tq Tryd.prog 99 = some (false, 1, 0) := by kernel_rfl
theorem ty100 : tq Tryd.prog 100 = some (false, 1, 8) := by kernel_rfl
theorem ty101 : tq Tryd.prog 101 = some (false, 1, 8) := by kernel_rfl
theorem ty102 : tq Tryd.prog 102 = some (false, 1, 8) := by kernel_rfl
theorem ty103 : tq Tryd.prog 103 = some (false, 1, 24) := by kernel_rfl
theorem ty104 : tq Tryd.prog 104 = some (true, 8, 32) := by kernel_rfl
theorem ty105 : tq Tryd.prog 105 = some (true, 8, 32) := by kernel_rfl
theorem ty106 : tq Tryd.prog 106 = some (true, 10, 64) := by kernel_rfl
theorem ty107 : tq Tryd.prog 107 = some (true, 10, 64) := by kernel_rfl
theorem ty108 : tq Tryd.prog 108 = some (false, 1, 8) := by kernel_rfl
theorem ty109 : tq Tryd.prog 109 = some (false, 1, 8) := by kernel_rfl
theorem ty110 : tq Tryd.prog 110 = some (false, 1, 8) := by kernel_rfl
theorem ty111 : tq Tryd.prog 111 = some (false, 1, 8) := by kernel_rfl
theorem ty112 : tq Tryd.prog 112 = some (true, 1, 8) := by kernel_rfl
theorem ty113 : tq Tryd.prog 113 = some (true, 1, 8) := by kernel_rfl
theorem ty114 : tq Tryd.prog 114 = some (false, 1, 8) := by kernel_rfl
theorem ty115 : tq Tryd.prog 115 = some (false, 1, 8) := by kernel_rfl
theorem ty116 : tq Tryd.prog 116 = some (true, 64, 256) := by kernel_rfl
theorem ty117 : tq Tryd.prog 117 = some (false, 1, 8) := by kernel_rfl
theorem ty118 : tq Tryd.prog 118 = some (false, 1, 8) := by kernel_rfl
theorem ty119 : tq Tryd.prog 119 = some (false, 1, 8) := by kernel_rfl
theorem ty120 : tq Tryd.prog 120 = some (false, 1, 8) := by kernel_rfl
theorem ty121 : tq Tryd.prog 121 = some (true, 4, 40) := by kernel_rfl
theorem ty122 : tq Tryd.prog 122 = some (true, 4, 40) := by kernel_rfl
theorem ty123 : tq Tryd.prog 123 = some (true, 0, 0) := by kernel_rfl
theorem ty124 : tq Tryd.prog 124 = some (true, 0, 0) := by kernel_rfl
theorem ty125 : tq Tryd.prog 125 = some (true, 0, 0) := by kernel_rfl
theorem ty126 : tq Tryd.prog 126 = some (false, 1, 8) := by kernel_rfl
theorem ty127 : tq Tryd.prog 127 = some (false, 1, 1) := by kernel_rfl
theorem ty128 : tq Tryd.prog 128 = some (false, 1, 1) := by kernel_rfl
theorem ty129 : tq Tryd.prog 129 = some (false, 1, 8) := by kernel_rfl
theorem ty130 : tq Tryd.prog 130 = some (false, 1, 8) := by kernel_rfl
theorem ty131 : tq Tryd.prog 131 = some (false, 1, 4) := by kernel_rfl
theorem ty132 : tq Tryd.prog 132 = some (false, 1, 4) := by kernel_rfl
theorem ty133 : tq Tryd.prog 133 = some (true, 11, 48) := by kernel_rfl
theorem ty134 : tq Tryd.prog 134 = some (true, 11, 48) := by kernel_rfl
theorem ty135 : tq Tryd.prog 135 = some (false, 1, 8) := by kernel_rfl
theorem zr0 : zq Tryd.prog 0 = some (.tuple #[]) := by kernel_rfl
theorem zr1 : zq Tryd.prog 1 = some (.nilFunc) := by kernel_rfl
theorem zr2 : zq Tryd.prog 2 = some (.int .i64 0) := by kernel_rfl
theorem zr3 : zq Tryd.prog 3 = some (.int .i64 0) := by kernel_rfl
theorem zr4 : zq Tryd.prog 4 = some (.bool false) := by kernel_rfl
theorem zr5 : zq Tryd.prog 5 = some (.int .u8 0) := by kernel_rfl
theorem zr6 : zq Tryd.prog 6 = some (.int .u8 0) := by kernel_rfl
theorem zr7 : zq Tryd.prog 7 = some (.agg #[.int .i64 0, .int .i64 0, .bool false, .int .u8 0]) := by kernel_rfl
theorem zr8 : zq Tryd.prog 8 = some (.agg #[.int .i64 0, .int .i64 0, .bool false, .int .u8 0]) := by kernel_rfl
theorem zr9 : zq Tryd.prog 9 = some (.string ⟨#[]⟩) := by kernel_rfl
theorem zr10 : zq Tryd.prog 10 = some (.string ⟨#[]⟩) := by kernel_rfl
theorem zr11 : zq Tryd.prog 11 = some (.string ⟨#[]⟩) := by kernel_rfl
theorem zr12 : zq Tryd.prog 12 = some (.int .u64 0) := by kernel_rfl
theorem zr13 : zq Tryd.prog 13 = some (.agg #[.string ⟨#[]⟩, .int .u64 0]) := by kernel_rfl
theorem zr14 : zq Tryd.prog 14 = some (.agg #[.string ⟨#[]⟩, .int .u64 0]) := by kernel_rfl
theorem zr15 : zq Tryd.prog 15 = some (.pointer none) := by kernel_rfl
theorem zr16 : zq Tryd.prog 16 = some (.pointer none) := by kernel_rfl
theorem zr17 : zq Tryd.prog 17 = some (.pointer none) := by kernel_rfl
theorem zr18 : zq Tryd.prog 18 = some (.agg #[.pointer none]) := by kernel_rfl
theorem zr19 : zq Tryd.prog 19 = some (.agg #[.pointer none]) := by kernel_rfl
theorem zr20 : zq Tryd.prog 20 = some (.nilIface) := by kernel_rfl
theorem zr21 : zq Tryd.prog 21 = some (.int .i32 0) := by kernel_rfl
theorem zr22 : zq Tryd.prog 22 = some (.nilFunc) := by kernel_rfl
theorem zr23 : zq Tryd.prog 23 = some (.nilFunc) := by kernel_rfl
theorem zr24 : zq Tryd.prog 24 = some (.nilFunc) := by kernel_rfl
theorem zr25 : zq Tryd.prog 25 = some (.slice none 0 0) := by kernel_rfl
theorem zr26 : zq Tryd.prog 26 = some (.agg #[.int .i64 0, .int .i64 0, .int .i64 0, .int .i64 0, .slice none 0 0]) := by kernel_rfl
theorem zr27 : zq Tryd.prog 27 = some (.agg #[.int .i64 0, .int .i64 0, .int .i64 0, .int .i64 0, .slice none 0 0]) := by kernel_rfl
theorem zr28 : zq Tryd.prog 28 = some (.nilFunc) := by kernel_rfl
theorem zr29 : zq Tryd.prog 29 = some (.slice none 0 0) := by kernel_rfl
theorem zr30 : zq Tryd.prog 30 = some (.int .i64 0) := by kernel_rfl
theorem zr31 : zq Tryd.prog 31 = some (.tuple #[.slice none 0 0, .int .i64 0]) := by kernel_rfl
theorem zr32 : zq Tryd.prog 32 = some (.nilFunc) := by kernel_rfl
theorem zr33 : zq Tryd.prog 33 = some (.tuple #[.slice none 0 0, .int .i64 0]) := by kernel_rfl
theorem zr34 : zq Tryd.prog 34 = some (.nilFunc) := by kernel_rfl
theorem zr35 : zq Tryd.prog 35 = some (.nilFunc) := by kernel_rfl
theorem zr36 : zq Tryd.prog 36 = some (.tuple #[.agg #[.int .i64 0, .int .i64 0, .int .i64 0, .int .i64 0, .slice none 0 0], .int .i64 0]) := by kernel_rfl
theorem zr37 : zq Tryd.prog 37 = some (.nilFunc) := by kernel_rfl
theorem zr38 : zq Tryd.prog 38 = some (.tuple #[.agg #[.int .i64 0, .int .i64 0, .int .i64 0, .int .i64 0, .slice none 0 0], .int .i64 0]) := by kernel_rfl
theorem zr39 : zq Tryd.prog 39 = some (.nilFunc) := by kernel_rfl
theorem zr40 : zq Tryd.prog 40 = some (.nilFunc) := by kernel_rfl
theorem zr41 : zq Tryd.prog 41 = some (.slice none 0 0) := by kernel_rfl
theorem zr42 : zq Tryd.prog 42 = some (.nilFunc) := by kernel_rfl
theorem zr43 : zq Tryd.prog 43 = some (.nilFunc) := by kernel_rfl
theorem zr44 : zq Tryd.prog 44 = some (.nilFunc) := by kernel_rfl
theorem zr45 : zq Tryd.prog 45 = some (.nilFunc) := by kernel_rfl
theorem zr46 : zq Tryd.prog 46 = some (.nilFunc) := by kernel_rfl
theorem zr47 : zq Tryd.prog 47 = some (.nilFunc) := by kernel_rfl
theorem zr48 : zq Tryd.prog 48 = some (.nilFunc) := by kernel_rfl
theorem zr49 : zq Tryd.prog 49 = some (.int .u64 0) := by kernel_rfl
theorem zr50 : zq Tryd.prog 50 = some (.agg #[.int .u64 0, .int .u64 0, .int .u64 0, .int .u64 0]) := by kernel_rfl
theorem zr51 : zq Tryd.prog 51 = some (.agg #[.int .u64 0, .int .u64 0, .int .u64 0, .int .u64 0]) := by kernel_rfl
theorem zr52 : zq Tryd.prog 52 = some (.agg #[.int .i64 0, .int .u64 0, .int .u64 0, .int .u64 0, .int .u64 0, .int .u64 0, .int .u64 0, .int .u64 0, .int .u64 0, .int .u64 0, .int .u64 0, .int .u64 0, .int .u64 0, .int .u64 0]) := by kernel_rfl
theorem zr53 : zq Tryd.prog 53 = some (.agg #[.int .i64 0, .int .u64 0, .int .u64 0, .int .u64 0, .int .u64 0, .int .u64 0, .int .u64 0, .int .u64 0, .int .u64 0, .int .u64 0, .int .u64 0, .int .u64 0, .int .u64 0, .int .u64 0]) := by kernel_rfl
theorem zr54 : zq Tryd.prog 54 = some (.tuple #[.agg #[.int .i64 0, .int .u64 0, .int .u64 0, .int .u64 0, .int .u64 0, .int .u64 0, .int .u64 0, .int .u64 0, .int .u64 0, .int .u64 0, .int .u64 0, .int .u64 0, .int .u64 0, .int .u64 0], .int .i64 0]) := by kernel_rfl
theorem zr55 : zq Tryd.prog 55 = some (.nilFunc) := by kernel_rfl
theorem zr56 : zq Tryd.prog 56 = some (.int .u64 0) := by kernel_rfl
theorem zr57 : zq Tryd.prog 57 = some (.nilFunc) := by kernel_rfl
theorem zr58 : zq Tryd.prog 58 = some (.nilFunc) := by kernel_rfl
theorem zr59 : zq Tryd.prog 59 = some (.nilFunc) := by kernel_rfl
theorem zr60 : zq Tryd.prog 60 = some (.nilFunc) := by kernel_rfl
theorem zr61 : zq Tryd.prog 61 = some (.tuple #[.agg #[.int .u64 0, .int .u64 0, .int .u64 0, .int .u64 0], .int .i64 0]) := by kernel_rfl
theorem zr62 : zq Tryd.prog 62 = some (.nilFunc) := by kernel_rfl
theorem zr63 : zq Tryd.prog 63 = some (.nilFunc) := by kernel_rfl
theorem zr64 : zq Tryd.prog 64 = some (.tuple #[.agg #[.int .u64 0, .int .u64 0, .int .u64 0, .int .u64 0], .int .i64 0]) := by kernel_rfl
theorem zr65 : zq Tryd.prog 65 = some (.nilFunc) := by kernel_rfl
theorem zr66 : zq Tryd.prog 66 = some (.nilFunc) := by kernel_rfl
theorem zr67 : zq Tryd.prog 67 = some (.nilFunc) := by kernel_rfl
theorem zr68 : zq Tryd.prog 68 = some (.nilFunc) := by kernel_rfl
theorem zr69 : zq Tryd.prog 69 = some (.agg #[.int .i64 0, .int .u64 0, .int .u64 0, .int .u64 0, .int .u64 0, .int .u64 0, .int .u64 0, .int .u64 0, .int .u64 0, .int .u64 0, .int .u64 0, .int .u64 0, .int .u64 0, .int .u64 0, .int .i64 0, .int .u64 0, .int .u64 0, .int .u64 0, .int .u64 0, .int .u64 0, .int .u64 0, .int .u64 0, .int .u64 0, .int .u64 0, .int .u64 0, .int .u64 0, .int .u64 0, .int .u64 0]) := by kernel_rfl
theorem zr70 : zq Tryd.prog 70 = some (.nilFunc) := by kernel_rfl
theorem zr71 : zq Tryd.prog 71 = some (.agg #[.int .u8 0, .int .u8 0, .int .u8 0, .int .u8 0, .int .u8 0, .int .u8 0, .int .u8 0, .int .u8 0, .int .u8 0, .int .u8 0, .int .u8 0, .int .u8 0, .int .u8 0, .int .u8 0, .int .u8 0, .int .u8 0, .int .u8 0, .int .u8 0, .int .u8 0, .int .u8 0, .int .u8 0, .int .u8 0, .int .u8 0, .int .u8 0, .int .u8 0, .int .u8 0, .int .u8 0, .int .u8 0, .int .u8 0, .int .u8 0, .int .u8 0, .int .u8 0]) := by kernel_rfl
theorem zr72 : zq Tryd.prog 72 = some (.nilFunc) := by kernel_rfl
theorem zr73 : zq Tryd.prog 73 = some (.nilFunc) := by kernel_rfl
theorem zr74 : zq Tryd.prog 74 = some (.nilFunc) := by kernel_rfl
theorem zr75 : zq Tryd.prog 75 = some (.nilFunc) := by kernel_rfl
theorem zr76 : zq Tryd.prog 76 = some (.nilFunc) := by kernel_rfl
theorem zr77 : zq Tryd.prog 77 = some (.nilFunc) := by kernel_rfl
theorem zr78 : zq Tryd.prog 78 = some (.nilFunc) := by kernel_rfl
theorem zr79 : zq Tryd.prog 79 = some (.tuple #[.agg #[.int .u64 0, .int .u64 0, .int .u64 0, .int .u64 0], .int .u64 0]) := by kernel_rfl
theorem zr80 : zq Tryd.prog 80 = some (.nilFunc) := by kernel_rfl
theorem zr81 : zq Tryd.prog 81 = some (.nilFunc) := by kernel_rfl
theorem zr82 : zq Tryd.prog 82 = some (.nilFunc) := by kernel_rfl
theorem zr83 : zq Tryd.prog 83 = some (.pointer none) := by kernel_rfl
theorem zr84 : zq Tryd.prog 84 = some (.nilFunc) := by kernel_rfl
theorem zr85 : zq Tryd.prog 85 = some (.nilFunc) := by kernel_rfl
theorem zr86 : zq Tryd.prog 86 = some (.nilFunc) := by kernel_rfl
theorem zr87 : zq Tryd.prog 87 = some (.slice none 0 0) := by kernel_rfl
theorem zr88 : zq Tryd.prog 88 = some (.nilFunc) := by kernel_rfl
theorem zr89 : zq Tryd.prog 89 = some (.agg #[.int .u8 0, .int .u8 0, .int .u8 0, .int .u8 0, .int .u8 0, .int .u8 0, .int .u8 0, .int .u8 0]) := by kernel_rfl
theorem zr90 : zq Tryd.prog 90 = some (.slice none 0 0) := by kernel_rfl
theorem zr91 : zq Tryd.prog 91 = some (.nilFunc) := by kernel_rfl
theorem zr92 : zq Tryd.prog 92 = some (.nilFunc) := by kernel_rfl
theorem zr93 : zq Tryd.prog 93 = some (.int .u32 0) := by kernel_rfl
theorem zr94 : zq Tryd.prog 94 = some (.nilFunc) := by kernel_rfl
theorem zr95 : zq Tryd.prog 95 = some (.nilFunc) := by kernel_rfl
theorem zr96 : zq Tryd.prog 96 = some (.nilFunc) := by kernel_rfl
theorem zr97 : zq Tryd.prog 97 = some (.nilFunc) := by kernel_rfl
theorem zr98 : zq Tryd.prog 98 = some (.agg #[.int .u64 0, .int .u64 0, .int .u64 0, .int .u64 0, .int .u64 0, .int .u64 0]) := by kernel_rfl
theorem zr99 : zq Tryd.prog 99 = some (.tuple #[.int .u64 0, .int .u64 0]) := by kernel_rfl
theorem zr100 : zq Tryd.prog 100 = some (.nilFunc) := by kernel_rfl
theorem zr101 : zq Tryd.prog 101 = some (.nilFunc) := by kernel_rfl
theorem zr102 : zq Tryd.prog 102 = some (.nilFunc) := by kernel_rfl
theorem zr103 : zq Tryd.prog 103 = some (.slice none 0 0) := by kernel_rfl
theorem zr104 : zq Tryd.prog 104 = some (.agg #[.int .u32 0, .int .u32 0, .int .u32 0, .int .u32 0, .int .u32 0, .int .u32 0, .int .u32 0, .int .u32 0]) := by kernel_rfl
theorem zr105 : zq Tryd.prog 105 = some (.agg #[.int .u32 0, .int .u32 0, .int .u32 0, .int .u32 0, .int .u32 0, .int .u32 0, .int .u32 0, .int .u32 0]) := by kernel_rfl
theorem zr106 : zq Tryd.prog 106 = some (.agg #[.int .u32 0, .int .u32 0, .int .u32 0, .int .u32 0, .int .u32 0, .int .u32 0, .int .u32 0, .int .u32 0, .slice none 0 0, .int .i64 0]) := by kernel_rfl
theorem zr107 : zq Tryd.prog 107 = some (.agg #[.int .u32 0, .int .u32 0, .int .u32 0, .int .u32 0, .int .u32 0, .int .u32 0, .int .u32 0, .int .u32 0, .slice none 0 0, .int .i64 0]) := by kernel_rfl
theorem zr108 : zq Tryd.prog 108 = some (.nilFunc) := by kernel_rfl
theorem zr109 : zq Tryd.prog 109 = some (.nilFunc) := by kernel_rfl
theorem zr110 : zq Tryd.prog 110 = some (.nilFunc) := by kernel_rfl
theorem zr111 : zq Tryd.prog 111 = some (.nilFunc) := by kernel_rfl
theorem zr112 : zq Tryd.prog 112 = some (.agg #[.nilFunc]) := by kernel_rfl
theorem zr113 : zq Tryd.prog 113 = some (.agg #[.nilFunc]) := by kernel_rfl
theorem zr114 : zq Tryd.prog 114 = some (.nilFunc) := by kernel_rfl
theorem zr115 : zq Tryd.prog 115 = some (.nilFunc) := by kernel_rfl
theorem zr116 : zq Tryd.prog 116 = some (.agg #[.int .u32 0, .int .u32 0, .int .u32 0, .int .u32 0, .int .u32 0, .int .u32 0, .int .u32 0, .int .u32 0, .int .u32 0, .int .u32 0, .int .u32 0, .int .u32 0, .int .u32 0, .int .u32 0, .int .u32 0, .int .u32 0, .int .u32 0, .int .u32 0, .int .u32 0, .int .u32 0, .int .u32 0, .int .u32 0, .int .u32 0, .int .u32 0, .int .u32 0, .int .u32 0, .int .u32 0, .int .u32 0, .int .u32 0, .int .u32 0, .int .u32 0, .int .u32 0, .int .u32 0, .int .u32 0, .int .u32 0, .int .u32 0, .int .u32 0, .int .u32 0, .int .u32 0, .int .u32 0, .int .u32 0, .int .u32 0, .int .u32 0, .int .u32 0, .int .u32 0, .int .u32 0, .int .u32 0, .int .u32 0, .int .u32 0, .int .u32 0, .int .u32 0, .int .u32 0, .int .u32 0, .int .u32 0, .int .u32 0, .int .u32 0, .int .u32 0, .int .u32 0, .int .u32 0, .int .u32 0, .int .u32 0, .int .u32 0, .int .u32 0, .int .u32 0]) := by kernel_rfl
theorem zr117 : zq Tryd.prog 117 = some (.nilFunc) := by kernel_rfl
theorem zr118 : zq Tryd.prog 118 = some (.nilFunc) := by kernel_rfl
theorem zr119 : zq Tryd.prog 119 = some (.nilFunc) := by kernel_rfl
theorem zr120 : zq Tryd.prog 120 = some (.nilFunc) := by kernel_rfl
theorem zr121 : zq Tryd.prog 121 = some (.agg #[.pointer none, .pointer none, .pointer none, .string ⟨#[]⟩]) := by kernel_rfl
theorem zr122 : zq Tryd.prog 122 = some (.agg #[.pointer none, .pointer none, .pointer none, .string ⟨#[]⟩]) := by kernel_rfl
theorem zr123 : zq Tryd.prog 123 = some (.agg #[]) := by kernel_rfl
theorem zr124 : zq Tryd.prog 124 = some (.agg #[]) := by kernel_rfl
theorem zr125 : zq Tryd.prog 125 = some (.agg #[]) := by kernel_rfl
theorem zr126 : zq Tryd.prog 126 = some (.nilFunc) := by kernel_rfl
theorem zr127 : zq Tryd.prog 127 = some (.int .u8 0) := by kernel_rfl
theorem zr128 : zq Tryd.prog 128 = some (.int .u8 0) := by kernel_rfl
theorem zr129 : zq Tryd.prog 129 = some (.nilFunc) := by kernel_rfl
theorem zr130 : zq Tryd.prog 130 = some (.pointer none) := by kernel_rfl
theorem zr131 : zq Tryd.prog 131 = some (.int .i32 0) := by kernel_rfl
theorem zr132 : zq Tryd.prog 132 = some (.int .i32 0) := by kernel_rfl
theorem zr133 : zq Tryd.prog 133 = some (.agg #[.int .u64 0, .int .u64 0, .int .u32 0, .int .u8 0, .int .u8 0, .int .u8 0, .int .u8 0, .nilFunc, .pointer none, .int .i32 0, .int .i32 0]) := by kernel_rfl
theorem zr134 : zq Tryd.prog 134 = some (.agg #[.int .u64 0, .int .u64 0, .int .u32 0, .int .u8 0, .int .u8 0, .int .u8 0, .int .u8 0, .nilFunc, .pointer none, .int .i32 0, .int .i32 0]) := by kernel_rfl
theorem zr135 : zq Tryd.prog 135 = some (.pointer none) := by kernel_rfl
end Go.Proofs.YtjhfepkpfakemaaDoor
